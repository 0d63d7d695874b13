/- Functions of the translation as plain Lean functions, and their walks: written by a program of this session's on the kit's print, for this seat. -/
import Derived.Test.YtlpdongckcaclaaSx0
import Derived.Test.YtlpdongckcaclaaSx1
import Derived.Test.YtlpdongckcaclaaSx3
namespace Go.Proofs.Ytlpdongckcaclaa.S
open Go.RowKit Go.Proofs.Ytlpdongckcaclaa.Limb Go.Proofs.Ytlpdongckcaclaa.Plain Go.Proofs.YtlpdongckcaclaaW.PrintWords Go.Proofs.YtlpdongckcaclaaW.PrintLast Go.Proofs.YtlpdongckcaclaaW.PrintMore
open Go.Proofs.YtlpdongckcaclaaW.PrintWords renaming pw_below_drewN → pN, below_drew1 → dI, blk_drewN → bN, blk_alloc → bL, blk_below → bB, blk_cell → bC, blk_frozen → bF, blk_far → bX, blk_drew → bD
attribute [local go_sem] max2_int min2_int max_two min_two max_three min_three max_four min_four   -- for this text's walks alone
set_option linter.unusedVariables false
set_option linter.unusedSimpArgs false

attribute [local go_sem high] eqA24
/-! ### limb_Sqrt: function 21 -/
mutual
def limb_Sqrt.l0 : Nat → Int → Int → Int → Int → Int → Int → Int → Option (Int × Int)
 | 0, _, _, _, _, _, _, _ => none
 | k + 1, x4, x115000, x115001, x115002, x115003, x117000, x117001 => if x4 > 0 then (if (wrap64 (x4 - 1)) < 64 then (if 0 ≤ (wrap64 (x4 - 1)) then (limb_Sqrt.j1 k x4 x115000 x115001 x115002 x115003 x117000 x117001 x117000 (Go.bits .or .u64 x117001 (shl .u64 1 (wrap64 (x4 - 1))))) else (none)) else (if 0 ≤ (wrap64 ((wrap64 (x4 - 1)) - 64)) then (limb_Sqrt.j1 k x4 x115000 x115001 x115002 x115003 x117000 x117001 (Go.bits .or .u64 x117000 (shl .u64 1 (wrap64 ((wrap64 (x4 - 1)) - 64)))) x117001) else (none))) else (some (x117000, x117001))
def limb_Sqrt.j1 : Nat → Int → Int → Int → Int → Int → Int → Int → Int → Int → Option (Int × Int)
 | 0, _, _, _, _, _, _, _, _, _ => none
 | k + 1, x4, x115000, x115001, x115002, x115003, x117000, x117001, x119000, x119001 => (limb_Mul.f x119000 x119001 x119000 x119001).bind fun bt119 => ((limb_Cmp.f k bt119.1 bt119.2.1 bt119.2.2.1 bt119.2.2.2 x115000 x115001 x115002 x115003).bind fun t123 => (if t123 ≤ 0 then (limb_Sqrt.l0 k (wrap64 (x4 - 1)) x115000 x115001 x115002 x115003 x119000 x119001) else (limb_Sqrt.l0 k (wrap64 (x4 - 1)) x115000 x115001 x115002 x115003 x117000 x117001)))
end
def limb_Sqrt.f (k : Nat) (a0_0 : Int) (a0_1 : Int) (a0_2 : Int) (a0_3 : Int) : Option (Int × Int) := (limb_Len.f a0_0 a0_1 a0_2 a0_3).bind fun t117 => (limb_Sqrt.l0 k (wrap64 (Int.tdiv (wrap64 (t117 + 1)) 2)) a0_0 a0_1 a0_2 a0_3 0 0)
theorem limb_Sqrt.mono_l : ∀ k, (∀ y0 y1 y2 y3 y4 y5 y6, LeO (limb_Sqrt.l0 k y0 y1 y2 y3 y4 y5 y6) (limb_Sqrt.l0 (k + 1) y0 y1 y2 y3 y4 y5 y6)) ∧ (∀ y0 y1 y2 y3 y4 y5 y6 y7 y8, LeO (limb_Sqrt.j1 k y0 y1 y2 y3 y4 y5 y6 y7 y8) (limb_Sqrt.j1 (k + 1) y0 y1 y2 y3 y4 y5 y6 y7 y8))
 | 0 => ⟨fun _ _ _ _ _ _ _ r h => by simp [limb_Sqrt.l0] at h, fun _ _ _ _ _ _ _ _ _ r h => by simp [limb_Sqrt.j1] at h⟩
 | k + 1 => by
  obtain ⟨ih0, ih1⟩ := limb_Sqrt.mono_l k
  refine ⟨?_, ?_⟩
  ·intro y0 y1 y2 y3 y4 y5 y6
   unfold limb_Sqrt.l0
   repeat' first
   | (with_reducible exact ih0 _ _ _ _ _ _ _)
   | (with_reducible exact ih1 _ _ _ _ _ _ _ _ _)
   | (with_reducible exact limb_Cmp.mono _ _ _ _ _ _ _ _ _)
   | (with_reducible exact LeO.refl _)
   | (with_reducible exact LeO.none _)
   | (with_reducible refine LeO.ite ?_ ?_)
   | (with_reducible refine LeO.bind ?_ (fun _ => ?_))
   | exact ih0 _ _ _ _ _ _ _
   | exact ih1 _ _ _ _ _ _ _ _ _
   | exact limb_Cmp.mono _ _ _ _ _ _ _ _ _
   | exact LeO.none _
   | refine LeO.ite ?_ ?_
   | refine LeO.bind ?_ (fun _ => ?_)
  ·intro y0 y1 y2 y3 y4 y5 y6 y7 y8
   unfold limb_Sqrt.j1
   repeat' first
   | (with_reducible exact ih0 _ _ _ _ _ _ _)
   | (with_reducible exact ih1 _ _ _ _ _ _ _ _ _)
   | (with_reducible exact limb_Cmp.mono _ _ _ _ _ _ _ _ _)
   | (with_reducible exact LeO.refl _)
   | (with_reducible exact LeO.none _)
   | (with_reducible refine LeO.ite ?_ ?_)
   | (with_reducible refine LeO.bind ?_ (fun _ => ?_))
   | exact ih0 _ _ _ _ _ _ _
   | exact ih1 _ _ _ _ _ _ _ _ _
   | exact limb_Cmp.mono _ _ _ _ _ _ _ _ _
   | exact LeO.none _
   | refine LeO.ite ?_ ?_
   | refine LeO.bind ?_ (fun _ => ?_)
theorem limb_Sqrt.mono : ∀ a0 a1 a2 a3 k, LeO (limb_Sqrt.f k a0 a1 a2 a3) (limb_Sqrt.f (k + 1) a0 a1 a2 a3) := by
 intro a0 a1 a2 a3 k
 obtain ⟨ih0, ih1⟩ := limb_Sqrt.mono_l k
 unfold limb_Sqrt.f
 repeat' first
   | (with_reducible exact ih0 _ _ _ _ _ _ _)
   | (with_reducible exact ih1 _ _ _ _ _ _ _ _ _)
   | (with_reducible exact limb_Cmp.mono _ _ _ _ _ _ _ _ _)
   | (with_reducible exact LeO.refl _)
   | (with_reducible exact LeO.none _)
   | (with_reducible refine LeO.ite ?_ ?_)
   | (with_reducible refine LeO.bind ?_ (fun _ => ?_))
   | exact ih0 _ _ _ _ _ _ _
   | exact ih1 _ _ _ _ _ _ _ _ _
   | exact limb_Cmp.mono _ _ _ _ _ _ _ _ _
   | exact LeO.none _
   | refine LeO.ite ?_ ?_
   | refine LeO.bind ?_ (fun _ => ?_)
def limb_Sqrt.T9 : Bool × List (List Nat × List Nat) := (true, [([], []), ([0], [0]), ([], []), ([2], [2]), ([3], [3]), ([1, 4], [1, 4]), ([0, 1, 2, 3, 4, 5], []), ([6, 5, 0, 1, 2, 3, 4, 5], [5, 6])])
def limb_Sqrt.B9 : List Nat := [0, 1, 0, 4, 12, 31, 63, 127]
theorem limb_Sqrt.tab9 : rtab .any (opsOf Try.f21 9) = limb_Sqrt.T9 := by kernel_rfl
theorem limb_Sqrt.bits9 : waitsOk limb_Sqrt.T9.2 limb_Sqrt.B9 = true := by kernel_rfl
set_option maxHeartbeats 8000000 in
set_option maxRecDepth 100000 in
theorem limb_Sqrt.calls (k : Nat) (a0_0 : Int) (a0_1 : Int) (a0_2 : Int) (a0_3 : Int) (r1 : Int) (r2 : Int) (w : World) (h : limb_Sqrt.f k a0_0 a0_1 a0_2 a0_3 = some (r1, r2)) :
  Calls Try.prog 21 #[.agg #[.int .u64 a0_0, .int .u64 a0_1, .int .u64 a0_2, .int .u64 a0_3]] w fun e w' => e = .returned (.agg #[.int .u64 r1, .int .u64 r2]) ∧ Below w.heap.size w w' := by
 have hu26 := Try.underlying26
 have hu24 := Try.underlying24
 have HB := Aside0.mk (Below.refl w.heap.size w)
 have H : ((limb_Len.f a0_0 a0_1 a0_2 a0_3).bind fun t117 => (limb_Sqrt.l0 k (wrap64 (Int.tdiv (wrap64 (t117 + 1)) 2)) a0_0 a0_1 a0_2 a0_3 0 0)) = some (r1, r2) := h
 clear h
 replace H := Option.bind_eq_some_iff.mp H
 obtain ⟨t117, A20, H⟩ := H
 replace H : (limb_Sqrt.l0 k (wrap64 (Int.tdiv (wrap64 (t117 + 1)) 2)) a0_0 a0_1 a0_2 a0_3 0 0) = some (r1, r2) := H
 have A2 := Aside0.mk A20
 clear A20
 have H' := Aside0.mk H
 clear H
 go_enter Try.func21, Try.ntmps21
 go_wp2_with (first | ((with_reducible refine gate_dst (N := 1) rfl ?_); refine box_event ?hg (N := 1) ?hd (cs := #[.int .u64 a0_0, .int .u64 a0_1, .int .u64 a0_2, .int .u64 a0_3]) (t := 26) ?hr ?_; (case hd => rfl); (case hg => rfl); (case hr => first | (go_simp; done) | (go_simp; rfl)); intro gb114 hg w3 hbox hb; have n0_ := Aside0.mk (below_step (by repeat (first | (with_reducible first | exact HB.out | apply below_alloc | apply pN | apply dI) | exact HB.out)) hb); have n1_ := Aside0.mk (hbox); have n2_ := Aside0.mk ((by rw [hg]; exact (below_size (by repeat (first | (with_reducible first | exact HB.out | apply below_alloc | apply pN | apply dI) | exact HB.out))) : w.heap.size ≤ gb114)); have n3_ := Aside0.mk ((by rw [hg]; exact (below_size (by repeat (first | (with_reducible first | exact HB.out | apply below_alloc | apply pN | apply dI) | exact HB.out))) : w.heap.size ≤ gb114)); clear HB; have HB := n0_; have BK114 := n1_; have GW114 := n2_; have GE114 := n3_; clear n0_ n1_ n2_ n3_; clear hb hbox hg) | ((with_reducible refine gate_dst (N := 2) rfl ?_); refine box_event ?hg (N := 2) ?hd (cs := #[.int .u64 0, .int .u64 0]) (t := 24) ?hr ?_; (case hd => rfl); (case hg => rfl); (case hr => first | (go_simp; done) | (go_simp; rfl)); intro gb115 hg w4 hbox hb; have n0_ := Aside0.mk (bB (g := gb114) (o := .cells #[.int .u64 a0_0, .int .u64 a0_1, .int .u64 a0_2, .int .u64 a0_3] 26 (0, 0)) (by (with_reducible repeat (first | refine bN ?_ _ | refine bD ?_ | refine bL ?_ _)); exact BK114.out) hb); have n1_ := Aside0.mk (below_step (by repeat (first | (with_reducible first | exact HB.out | apply below_alloc | apply pN | apply dI | refine below_set ?_ GE114.out) | exact HB.out)) hb); have n2_ := Aside0.mk (hbox); have n3_ := Aside0.mk ((by rw [hg]; exact (below_size (by repeat (first | (with_reducible first | exact HB.out | apply below_alloc | apply pN | apply dI | refine below_set ?_ GE114.out) | exact HB.out))) : w.heap.size ≤ gb115)); have n4_ := Aside0.mk ((by rw [hg]; exact (below_size (by repeat (first | (with_reducible first | exact HB.out | apply below_alloc | apply pN | apply dI | refine below_set ?_ GE114.out) | exact HB.out))) : w.heap.size ≤ gb115)); have n5_ := Aside0.mk ((by rw [hg]; exact Nat.ne_of_lt (blk_lt (g := gb114) (o := .cells #[.int .u64 a0_0, .int .u64 a0_1, .int .u64 a0_2, .int .u64 a0_3] 26 (0, 0)) (by (with_reducible repeat (first | refine bN ?_ _ | refine bD ?_ | refine bL ?_ _)); exact BK114.out)) : gb114 ≠ gb115)); have n6_ := Aside0.mk ((by rw [hg]; exact Nat.ne_of_gt (blk_lt (g := gb114) (o := .cells #[.int .u64 a0_0, .int .u64 a0_1, .int .u64 a0_2, .int .u64 a0_3] 26 (0, 0)) (by (with_reducible repeat (first | refine bN ?_ _ | refine bD ?_ | refine bL ?_ _)); exact BK114.out)) : gb115 ≠ gb114)); clear BK114; clear HB; have BK114 := n0_; have HB := n1_; have BK115 := n2_; have GW115 := n3_; have GE115 := n4_; have NB114_115 := n5_; have NB115_114 := n6_; clear n0_ n1_ n2_ n3_ n4_ n5_ n6_; clear hb hbox hg) | ((with_reducible refine gate_dst (N := 3) rfl ?_); refine box_event ?hg (N := 3) ?hd (cs := #[.int .u64 0, .int .u64 0]) (t := 24) ?hr ?_; (case hd => rfl); (case hg => rfl); (case hr => first | (go_simp; done) | (go_simp; rfl)); intro gb116 hg w5 hbox hb; have n0_ := Aside0.mk (bB (g := gb114) (o := .cells #[.int .u64 a0_0, .int .u64 a0_1, .int .u64 a0_2, .int .u64 a0_3] 26 (0, 0)) (by (with_reducible repeat (first | refine bN ?_ _ | refine bD ?_ | refine bL ?_ _)); exact BK114.out) hb); have n1_ := Aside0.mk (bB (g := gb115) (o := .cells #[.int .u64 0, .int .u64 0] 24 (0, 0)) (by (with_reducible repeat (first | refine bN ?_ _ | refine bD ?_ | refine bL ?_ _)); exact BK115.out) hb); have n2_ := Aside0.mk (below_step (by repeat (first | (with_reducible first | exact HB.out | apply below_alloc | apply pN | apply dI | refine below_set ?_ GE114.out | refine below_set ?_ GE115.out) | exact HB.out)) hb); have n3_ := Aside0.mk (hbox); have n4_ := Aside0.mk ((by rw [hg]; exact (below_size (by repeat (first | (with_reducible first | exact HB.out | apply below_alloc | apply pN | apply dI | refine below_set ?_ GE114.out | refine below_set ?_ GE115.out) | exact HB.out))) : w.heap.size ≤ gb116)); have n5_ := Aside0.mk ((by rw [hg]; exact (below_size (by repeat (first | (with_reducible first | exact HB.out | apply below_alloc | apply pN | apply dI | refine below_set ?_ GE114.out | refine below_set ?_ GE115.out) | exact HB.out))) : w.heap.size ≤ gb116)); have n6_ := Aside0.mk ((by rw [hg]; exact Nat.ne_of_lt (blk_lt (g := gb114) (o := .cells #[.int .u64 a0_0, .int .u64 a0_1, .int .u64 a0_2, .int .u64 a0_3] 26 (0, 0)) (by (with_reducible repeat (first | refine bN ?_ _ | refine bD ?_ | refine bL ?_ _)); exact BK114.out)) : gb114 ≠ gb116)); have n7_ := Aside0.mk ((by rw [hg]; exact Nat.ne_of_gt (blk_lt (g := gb114) (o := .cells #[.int .u64 a0_0, .int .u64 a0_1, .int .u64 a0_2, .int .u64 a0_3] 26 (0, 0)) (by (with_reducible repeat (first | refine bN ?_ _ | refine bD ?_ | refine bL ?_ _)); exact BK114.out)) : gb116 ≠ gb114)); have n8_ := Aside0.mk ((by rw [hg]; exact Nat.ne_of_lt (blk_lt (g := gb115) (o := .cells #[.int .u64 0, .int .u64 0] 24 (0, 0)) (by (with_reducible repeat (first | refine bN ?_ _ | refine bD ?_ | refine bL ?_ _)); exact BK115.out)) : gb115 ≠ gb116)); have n9_ := Aside0.mk ((by rw [hg]; exact Nat.ne_of_gt (blk_lt (g := gb115) (o := .cells #[.int .u64 0, .int .u64 0] 24 (0, 0)) (by (with_reducible repeat (first | refine bN ?_ _ | refine bD ?_ | refine bL ?_ _)); exact BK115.out)) : gb116 ≠ gb115)); clear BK114; clear BK115; clear HB; have BK114 := n0_; have BK115 := n1_; have HB := n2_; have BK116 := n3_; have GW116 := n4_; have GE116 := n5_; have NB114_116 := n6_; have NB116_114 := n7_; have NB115_116 := n8_; have NB116_115 := n9_; clear n0_ n1_ n2_ n3_ n4_ n5_ n6_ n7_ n8_ n9_; clear hb hbox hg; have hnb6 := NB114_115.out; have hnc6 := NB115_114.out; have hnb7 := NB114_116.out; have hnc7 := NB116_114.out; have hcz8_0 : w5.cell? ⟨gb114, 0, none⟩ = some (.int .u64 a0_0) := (bC BK114.out 0).trans rfl; have hcz8_1 : w5.cell? ⟨gb114, 1, none⟩ = some (.int .u64 a0_1) := (bC BK114.out 1).trans rfl; have hcz8_2 : w5.cell? ⟨gb114, 2, none⟩ = some (.int .u64 a0_2) := (bC BK114.out 2).trans rfl; have hcz8_3 : w5.cell? ⟨gb114, 3, none⟩ = some (.int .u64 a0_3) := (bC BK114.out 3).trans rfl; have hfz8_0 := bF BK114.out 0; have hfz8_1 := bF BK114.out 1; have hfz8_2 := bF BK114.out 2; have hfz8_3 := bF BK114.out 3) | ((with_reducible refine gate_callee (f := 28) rfl ?_); refine goesL_ (some 8) rfl rfl Try.func28 (by kernel_rfl) rfl #[.agg #[.int .u64 a0_0, .int .u64 a0_1, .int .u64 a0_2, .int .u64 a0_3]] rfl (by (try simp only [List.map_toArray, List.map_cons, List.map_nil]); first | done | rfl | (simp only [List.length_drop, List.length_take]; rfl)) ?_; (with_reducible refine (limb_Len.calls a0_0 a0_1 a0_2 a0_3 t117 _ A2.out).mono ?_); rintro e w9 ⟨rfl, hb⟩; refine ⟨_, rfl, ?_⟩; have n0_ := Aside0.mk (bB (g := gb114) (o := .cells #[.int .u64 a0_0, .int .u64 a0_1, .int .u64 a0_2, .int .u64 a0_3] 26 (0, 0)) (by (with_reducible repeat (first | refine bN ?_ _ | refine bD ?_ | refine bL ?_ _)); exact BK114.out) hb); have n1_ := Aside0.mk (bB (g := gb115) (o := .cells #[.int .u64 0, .int .u64 0] 24 (0, 0)) (by (with_reducible repeat (first | refine bN ?_ _ | refine bD ?_ | refine bL ?_ _)); exact BK115.out) hb); have n2_ := Aside0.mk (bB (g := gb116) (o := .cells #[.int .u64 0, .int .u64 0] 24 (0, 0)) (by (with_reducible repeat (first | refine bN ?_ _ | refine bD ?_ | refine bL ?_ _)); exact BK116.out) hb); have n3_ := Aside0.mk (below_step (by repeat (first | (with_reducible first | exact HB.out | apply below_alloc | apply pN | apply dI | refine below_set ?_ GE114.out | refine below_set ?_ GE115.out | refine below_set ?_ GE116.out) | exact HB.out)) hb); clear BK114; clear BK115; clear BK116; clear HB; have BK114 := n0_; have BK115 := n1_; have BK116 := n2_; have HB := n3_; clear n0_ n1_ n2_ n3_; (try clear hb); (try clear hb2); (try clear hk); (try clear hi)))
 go_loopg [4] k (fun kq v4 w' => ∃ (x4_1 : Int) (x117000_1 : Int) (x117001_1 : Int), v4 = .int .i64 x4_1 ∧ Aside0 (limb_Sqrt.l0 kq x4_1 a0_0 a0_1 a0_2 a0_3 x117000_1 x117001_1 = some (r1, r2)) ∧ Aside0 (kq ≤ k) ∧ Aside0 (w'.heap[gb114]? = some (.cells #[.int .u64 a0_0, .int .u64 a0_1, .int .u64 a0_2, .int .u64 a0_3] 26 (0, 0))) ∧ Aside0 (w'.heap[gb115]? = some (.cells #[.int .u64 0, .int .u64 0] 24 (0, 0))) ∧ Aside0 (w'.heap[gb116]? = some (.cells #[.int .u64 x117000_1, .int .u64 x117001_1] 24 (0, 0))) ∧ Aside0 (Below w.heap.size w w'))
 case atStart => exact ⟨(wrap64 (Int.tdiv (wrap64 (t117 + 1)) 2)), (0), (0), (by first | rfl | (simp; done) | (simp [*]; done)), H', ⟨Nat.le_refl _⟩, ⟨by (with_reducible repeat (first | refine bN ?_ _ | refine bD ?_ | refine bL ?_ _)); exact BK114.out⟩, ⟨by (with_reducible repeat (first | refine bN ?_ _ | refine bD ?_ | refine bL ?_ _)); exact BK115.out⟩, ⟨by (with_reducible repeat (first | refine bN ?_ _ | refine bD ?_ | refine bL ?_ _)); exact BK116.out⟩, ⟨by repeat (first | (with_reducible first | exact HB.out | apply below_alloc | apply pN | apply dI | refine below_set ?_ GE114.out | refine below_set ?_ GE115.out | refine below_set ?_ GE116.out) | exact HB.out)⟩⟩
 case round =>
  clear H'
  try clear c2
  try clear p2
  try clear c6
  try clear p6
  try clear c7
  try clear hcz8_0
  try clear hcz8_1
  try clear hcz8_2
  try clear hcz8_3
  try clear hfz8_0
  try clear hfz8_1
  try clear hfz8_2
  try clear hfz8_3
  obtain ⟨x4_1, x117000_1, x117001_1, rfl, HA, HK1, BK114, BK115, BK116, HB⟩ := hrel
  cases gk with
  | zero => exact absurd HA.out (by simp [limb_Sqrt.l0])
  | succ k1 =>
   have H := HA.out
   clear HA
   simp only [limb_Sqrt.l0] at H
   by_cases c10 : x4_1 > 0
   ·rw [if_pos c10] at H
    have c10b0 : decide (0 < x4_1) = true := decide_eq_true c10
    clear c10
    have HC11 := Aside0.mk H
    clear H
    have hnb12 := NB116_114.out
    have hnc12 := NB114_116.out
    have hnb13 := NB116_115.out
    have hnc13 := NB115_116.out
    have hcz14_0 : wr.cell? ⟨gb116, 0, none⟩ = some (.int .u64 x117000_1) := (bC BK116.out 0).trans rfl
    have hcz14_1 : wr.cell? ⟨gb116, 1, none⟩ = some (.int .u64 x117001_1) := (bC BK116.out 1).trans rfl
    have hfz14_0 := bF BK116.out 0
    have hfz14_1 := bF BK116.out 1
    go_upto_if 19 with (first | ((with_reducible refine gate_dst (N := 5) rfl ?_); refine box_event ?hg (N := 5) ?hd (cs := #[.int .u64 0, .int .u64 0]) (t := 24) ?hr ?_; (case hd => rfl); (case hg => rfl); (case hr => first | (go_simp; done) | (go_simp; rfl)); intro gb118 hg w15 hbox hb; have n0_ := Aside0.mk (bB (g := gb114) (o := .cells #[.int .u64 a0_0, .int .u64 a0_1, .int .u64 a0_2, .int .u64 a0_3] 26 (0, 0)) (by (with_reducible repeat (first | refine bN ?_ _ | refine bD ?_ | refine bL ?_ _)); exact BK114.out) hb); have n1_ := Aside0.mk (bB (g := gb115) (o := .cells #[.int .u64 0, .int .u64 0] 24 (0, 0)) (by (with_reducible repeat (first | refine bN ?_ _ | refine bD ?_ | refine bL ?_ _)); exact BK115.out) hb); have n2_ := Aside0.mk (bB (g := gb116) (o := .cells #[.int .u64 x117000_1, .int .u64 x117001_1] 24 (0, 0)) (by (with_reducible repeat (first | refine bN ?_ _ | refine bD ?_ | refine bL ?_ _)); exact BK116.out) hb); have n3_ := Aside0.mk (below_step (by repeat (first | (with_reducible first | exact HB.out | apply below_alloc | apply pN | apply dI | refine below_set ?_ GE114.out | refine below_set ?_ GE115.out | refine below_set ?_ GE116.out) | exact HB.out)) hb); have n4_ := Aside0.mk (hbox); have n5_ := Aside0.mk ((by rw [hg]; exact (below_size (by repeat (first | (with_reducible first | exact HB.out | apply below_alloc | apply pN | apply dI | refine below_set ?_ GE114.out | refine below_set ?_ GE115.out | refine below_set ?_ GE116.out) | exact HB.out))) : w.heap.size ≤ gb118)); have n6_ := Aside0.mk ((by rw [hg]; exact (below_size (by repeat (first | (with_reducible first | exact HB.out | apply below_alloc | apply pN | apply dI | refine below_set ?_ GE114.out | refine below_set ?_ GE115.out | refine below_set ?_ GE116.out) | exact HB.out))) : w.heap.size ≤ gb118)); have n7_ := Aside0.mk ((by rw [hg]; exact Nat.ne_of_lt (blk_lt (g := gb114) (o := .cells #[.int .u64 a0_0, .int .u64 a0_1, .int .u64 a0_2, .int .u64 a0_3] 26 (0, 0)) (by (with_reducible repeat (first | refine bN ?_ _ | refine bD ?_ | refine bL ?_ _)); exact BK114.out)) : gb114 ≠ gb118)); have n8_ := Aside0.mk ((by rw [hg]; exact Nat.ne_of_gt (blk_lt (g := gb114) (o := .cells #[.int .u64 a0_0, .int .u64 a0_1, .int .u64 a0_2, .int .u64 a0_3] 26 (0, 0)) (by (with_reducible repeat (first | refine bN ?_ _ | refine bD ?_ | refine bL ?_ _)); exact BK114.out)) : gb118 ≠ gb114)); have n9_ := Aside0.mk ((by rw [hg]; exact Nat.ne_of_lt (blk_lt (g := gb115) (o := .cells #[.int .u64 0, .int .u64 0] 24 (0, 0)) (by (with_reducible repeat (first | refine bN ?_ _ | refine bD ?_ | refine bL ?_ _)); exact BK115.out)) : gb115 ≠ gb118)); have n10_ := Aside0.mk ((by rw [hg]; exact Nat.ne_of_gt (blk_lt (g := gb115) (o := .cells #[.int .u64 0, .int .u64 0] 24 (0, 0)) (by (with_reducible repeat (first | refine bN ?_ _ | refine bD ?_ | refine bL ?_ _)); exact BK115.out)) : gb118 ≠ gb115)); have n11_ := Aside0.mk ((by rw [hg]; exact Nat.ne_of_lt (blk_lt (g := gb116) (o := .cells #[.int .u64 x117000_1, .int .u64 x117001_1] 24 (0, 0)) (by (with_reducible repeat (first | refine bN ?_ _ | refine bD ?_ | refine bL ?_ _)); exact BK116.out)) : gb116 ≠ gb118)); have n12_ := Aside0.mk ((by rw [hg]; exact Nat.ne_of_gt (blk_lt (g := gb116) (o := .cells #[.int .u64 x117000_1, .int .u64 x117001_1] 24 (0, 0)) (by (with_reducible repeat (first | refine bN ?_ _ | refine bD ?_ | refine bL ?_ _)); exact BK116.out)) : gb118 ≠ gb116)); clear BK114; clear BK115; clear BK116; clear HB; have BK114 := n0_; have BK115 := n1_; have BK116 := n2_; have HB := n3_; have BK118 := n4_; have GW118 := n5_; have GE118 := n6_; have NB114_118 := n7_; have NB118_114 := n8_; have NB115_118 := n9_; have NB118_115 := n10_; have NB116_118 := n11_; have NB118_116 := n12_; clear n0_ n1_ n2_ n3_ n4_ n5_ n6_ n7_ n8_ n9_ n10_ n11_ n12_; clear hb hbox hg; have hnb16 := NB118_114.out; have hnc16 := NB114_118.out; have hnb17 := NB118_115.out; have hnc17 := NB115_118.out; have hnb18 := NB118_116.out; have hnc18 := NB116_118.out; have hcz19_0 : w15.cell? ⟨gb118, 0, none⟩ = some (.int .u64 0) := (bC BK118.out 0).trans rfl; have hcz19_1 : w15.cell? ⟨gb118, 1, none⟩ = some (.int .u64 0) := (bC BK118.out 1).trans rfl; have hfz19_0 := bF BK118.out 0; have hfz19_1 := bF BK118.out 1))
    (try simp only [Act.put, List.setIfInBounds_toArray, List.set_cons_zero, List.set_cons_succ])
    go_cut [] (fun wc => ∃ (kq : Nat) (x119000_10 : Int) (x119001_10 : Int), Aside0 (limb_Sqrt.j1 kq x4_1 a0_0 a0_1 a0_2 a0_3 x117000_1 x117001_1 x119000_10 x119001_10 = some (r1, r2)) ∧ Aside0 (kq ≤ k1) ∧ Aside0 (wc.heap[gb114]? = some (.cells #[.int .u64 a0_0, .int .u64 a0_1, .int .u64 a0_2, .int .u64 a0_3] 26 (0, 0))) ∧ Aside0 (wc.heap[gb115]? = some (.cells #[.int .u64 0, .int .u64 0] 24 (0, 0))) ∧ Aside0 (wc.heap[gb116]? = some (.cells #[.int .u64 x117000_1, .int .u64 x117001_1] 24 (0, 0))) ∧ Aside0 (wc.heap[gb118]? = some (.cells #[.int .u64 x119000_10, .int .u64 x119001_10] 24 (0, 0))) ∧ Aside0 (Below w.heap.size w wc))
    case first =>
     have H := HC11.out
     clear HC11
     by_cases c20 : (wrap64 (x4_1 - 1)) < 64
     ·rw [if_pos c20] at H
      have c20b0 : decide ((wrap64 (x4_1 - 1)) < 64) = true := decide_eq_true c20
      clear c20
      (first | rw [c20b0] | (simp only [i64_w, i32_w]; rw [c20b0]) | skip)
      obtain ⟨ji21, hji21⟩ : ∃ j_ : Int, (wrap64 (x4_1 - 1)) = j_ := ⟨_, rfl⟩
      replace H : (if 0 ≤ (ji21) then (limb_Sqrt.j1 k1 x4_1 a0_0 a0_1 a0_2 a0_3 x117000_1 x117001_1 x117000_1 (Go.bits .or .u64 x117001_1 (shl .u64 1 (ji21)))) else (none)) = some (r1, r2) := by first | (rw [hji21] at H; exact H) | (simp only [hji21] at H ⊢; exact H)
      (try rw [hji21] at c20b0)
      have hji21w : (IntKind.i64.wrap (x4_1 - 1)) = ji21 := (i64_w _).trans hji21
      by_cases c22 : 0 ≤ (ji21)
      ·rw [if_pos c22] at H
       have c22b0 := eq_true c22
       have c22b1 : decide (0 ≤ (ji21)) = true := decide_eq_true c22
       clear c22
       obtain ⟨ji23, hji23⟩ : ∃ j_ : Int, (shl .u64 1 (ji21)) = j_ := ⟨_, rfl⟩
       replace H : (limb_Sqrt.j1 k1 x4_1 a0_0 a0_1 a0_2 a0_3 x117000_1 x117001_1 x117000_1 (Go.bits .or .u64 x117001_1 (ji23))) = some (r1, r2) := by first | (rw [hji23] at H; exact H) | (simp only [hji23] at H ⊢; exact H)
       have hji23_ : (IntKind.u64.wrap (1 * 2 ^ min (ji21).toNat 64)) = ji23 := hji23
       have hji23z : (ji21) ≤ 64 → (IntKind.u64.wrap (1 * 2 ^ (ji21).toNat)) = ji23 := shl_small hji23
       have hji23u : (IntKind.u64.wrap (2 ^ min (ji21).toNat 64)) = ji23 := by have h_ := hji23_; rw [Int.one_mul] at h_; exact h_
       have hji23v : (ji21) ≤ 64 → (IntKind.u64.wrap (2 ^ (ji21).toNat)) = ji23 := fun hle_ => by have h_ := hji23z hle_; rw [Int.one_mul] at h_; exact h_
       have H' := Aside0.mk H
       clear H
       try go_wp2
       have n0_ : Aside0 (((w15.setCell ⟨gb118, 0, none⟩ (.int .u64 x117000_1)).setCell ⟨gb118, 1, none⟩ (.int .u64 x117001_1)).heap[gb114]? = some (.cells #[.int .u64 a0_0, .int .u64 a0_1, .int .u64 a0_2, .int .u64 a0_3] 26 (0, 0))) := ⟨by (with_reducible repeat (first | refine bN ?_ _ | refine bD ?_ | refine bL ?_ _)); refine bX ?_ NB114_118.out _; (with_reducible repeat (first | refine bN ?_ _ | refine bD ?_ | refine bL ?_ _)); refine bX ?_ NB114_118.out _; (with_reducible repeat (first | refine bN ?_ _ | refine bD ?_ | refine bL ?_ _)); exact BK114.out⟩
       have n1_ : Aside0 (((w15.setCell ⟨gb118, 0, none⟩ (.int .u64 x117000_1)).setCell ⟨gb118, 1, none⟩ (.int .u64 x117001_1)).heap[gb115]? = some (.cells #[.int .u64 0, .int .u64 0] 24 (0, 0))) := ⟨by (with_reducible repeat (first | refine bN ?_ _ | refine bD ?_ | refine bL ?_ _)); refine bX ?_ NB115_118.out _; (with_reducible repeat (first | refine bN ?_ _ | refine bD ?_ | refine bL ?_ _)); refine bX ?_ NB115_118.out _; (with_reducible repeat (first | refine bN ?_ _ | refine bD ?_ | refine bL ?_ _)); exact BK115.out⟩
       have n2_ : Aside0 (((w15.setCell ⟨gb118, 0, none⟩ (.int .u64 x117000_1)).setCell ⟨gb118, 1, none⟩ (.int .u64 x117001_1)).heap[gb116]? = some (.cells #[.int .u64 x117000_1, .int .u64 x117001_1] 24 (0, 0))) := ⟨by (with_reducible repeat (first | refine bN ?_ _ | refine bD ?_ | refine bL ?_ _)); refine bX ?_ NB116_118.out _; (with_reducible repeat (first | refine bN ?_ _ | refine bD ?_ | refine bL ?_ _)); refine bX ?_ NB116_118.out _; (with_reducible repeat (first | refine bN ?_ _ | refine bD ?_ | refine bL ?_ _)); exact BK116.out⟩
       have n3_ : Aside0 (((w15.setCell ⟨gb118, 0, none⟩ (.int .u64 x117000_1)).setCell ⟨gb118, 1, none⟩ (.int .u64 x117001_1)).heap[gb118]? = some (.cells #[.int .u64 x117000_1, .int .u64 x117001_1] 24 (0, 0))) := ⟨by (with_reducible repeat (first | refine bN ?_ _ | refine bD ?_ | refine bL ?_ _)); refine blk_put (cs := #[.int .u64 x117000_1, .int .u64 0]) ?_ 1 _ rfl; (with_reducible repeat (first | refine bN ?_ _ | refine bD ?_ | refine bL ?_ _)); refine blk_put (cs := #[.int .u64 0, .int .u64 0]) ?_ 0 _ rfl; (with_reducible repeat (first | refine bN ?_ _ | refine bD ?_ | refine bL ?_ _)); exact BK118.out⟩
       have n4_ : Aside0 (Below w.heap.size w ((w15.setCell ⟨gb118, 0, none⟩ (.int .u64 x117000_1)).setCell ⟨gb118, 1, none⟩ (.int .u64 x117001_1))) := ⟨by repeat (first | (with_reducible first | exact HB.out | apply below_alloc | apply pN | apply dI | refine below_set ?_ GE114.out | refine below_set ?_ GE115.out | refine below_set ?_ GE116.out | refine below_set ?_ GE118.out) | exact HB.out)⟩
       (try clear BK114)
       (try clear BK115)
       (try clear BK116)
       (try clear BK118)
       (try clear HB)
       generalize ((w15.setCell ⟨gb118, 0, none⟩ (.int .u64 x117000_1)).setCell ⟨gb118, 1, none⟩ (.int .u64 x117001_1)) = w24 at n0_ n1_ n2_ n3_ n4_ ⊢
       have BK114 := n0_
       have BK115 := n1_
       have BK116 := n2_
       have BK118 := n3_
       have HB := n4_
       clear n0_ n1_ n2_ n3_ n4_
       have n0_ := Aside0.mk (bD BK114.out)
       have n1_ := Aside0.mk (bD BK115.out)
       have n2_ := Aside0.mk (bD BK116.out)
       have n3_ := Aside0.mk (bD BK118.out)
       have n4_ := Aside0.mk (dI HB.out)
       clear BK114
       clear BK115
       clear BK116
       clear BK118
       clear HB
       have BK114 := n0_
       have BK115 := n1_
       have BK116 := n2_
       have BK118 := n3_
       have HB := n4_
       clear n0_ n1_ n2_ n3_ n4_
       refine start_ (n := 7) (S := fun w' => w'.cell? ⟨gb118, 0, none⟩ = some (.int .u64 x117000_1) ∧ w'.cell? ⟨gb118, 1, none⟩ = some (.int .u64 x117001_1)) (ds := [6]) (bA 7 0) (by kernel_rfl) rfl rfl ⟨(bC BK118.out 0).trans rfl, (bC BK118.out 1).trans rfl⟩ (fun hHeld => ?_)
       generalize w24.drew = w25 at BK114 BK115 BK116 BK118 HB hHeld ⊢
       refine pure_ (i := 0) (N := some 20) (v := ?_) (a' := ?_) (bA 7 1) rfl rfl (by kernel_rfl) (fun _ _ _ h => h) (Or.inl ⟨by rfl, ?_⟩) ?_ ?_
       rotate_left
       ·intro w'
        go_simp
        with_reducible rfl
       rotate_left
       ·simp only [Act.put, List.setIfInBounds_toArray, List.set_cons_zero, List.set_cons_succ, i64_w, i32_w]
        rfl
       refine pure_ (i := 2) (N := some 22) (v := ?_) (a' := ?_) (bA 7 5) rfl rfl (by kernel_rfl) (fun _ _ _ h => h) (Or.inl ⟨by rfl, ?_⟩) ?_ ?_
       rotate_left
       ·intro w'
        go_simp
        with_reducible rfl
       rotate_left
       ·simp only [Act.put, List.setIfInBounds_toArray, List.set_cons_zero, List.set_cons_succ, i64_w, i32_w]
        rfl
       refine pure_ (i := 3) (N := some 23) (v := ?_) (a' := ?_) (bA 7 13) rfl rfl (by kernel_rfl) (fun _ _ _ h => h) (Or.inl ⟨by rfl, ?_⟩) ?_ ?_
       rotate_left
       ·intro w'
        go_simp
        with_reducible rfl
       rotate_left
       ·simp only [Act.put, List.setIfInBounds_toArray, List.set_cons_zero, List.set_cons_succ, i64_w, i32_w]
        rfl
       refine take_ (i := 1) (N := some 21) (v := ?_) (a' := ?_) (bA 7 15) rfl rfl (by kernel_rfl) (fun _ _ _ h => h) (Or.inl ⟨by rfl, ?_⟩) hHeld ?_ ?_
       rotate_left
       ·rintro w' ⟨s0, s1⟩
        go_simp
        with_reducible rfl
       rotate_left
       ·simp only [Act.put, List.setIfInBounds_toArray, List.set_cons_zero, List.set_cons_succ, i64_w, i32_w]
        rfl
       refine pure_ (i := 4) (N := some 24) (v := ?_) (a' := ?_) (bA 7 31) rfl rfl (by kernel_rfl) (fun _ _ _ h => h) (Or.inl ⟨by rfl, ?_⟩) ?_ ?_
       rotate_left
       ·intro w'
        go_simp
        with_reducible rfl
       rotate_left
       ·simp only [Act.put, List.setIfInBounds_toArray, List.set_cons_zero, List.set_cons_succ, i64_w, i32_w]
        rfl
       refine pure_ (i := 5) (N := some 25) (v := ?_) (a' := ?_) (bA 7 63) rfl rfl (by kernel_rfl) (fun _ _ _ h => h) (Or.inl ⟨by rfl, ?_⟩) ?_ ?_
       rotate_left
       ·intro w'
        go_simp
        with_reducible rfl
       rotate_left
       ·simp only [Act.put, List.setIfInBounds_toArray, List.set_cons_zero, List.set_cons_succ, i64_w, i32_w]
        rfl
       refine last_ (i := 6) (N := none) (bA 7 127) rfl rfl (by kernel_rfl) (by decide) (fun K hK => ?_)
       have hs26 : w25.cell? ⟨gb118, 1, none⟩ = some (.int .u64 x117001_1) := (bC BK118.out 1).trans rfl
       have hfs26 := bF BK118.out 1
       have hns26_0 := NB114_118.out
       have hns26_1 := NB115_118.out
       have hns26_2 := NB116_118.out
       have hms26_0 := NB118_114.out
       have hms26_1 := NB118_115.out
       have hms26_2 := NB118_116.out
       refine skip_ (w1 := ?_) (by rfl) rfl ?_ ?_
       rotate_left
       ·go_simp
        rfl
       refine hK.out _ _ ?_
       clear hK K
       refine done_ (by kernel_rfl) ?_
       try go_wp2
       go_meet
       case rel => exact ⟨_, (x117000_1), (Go.bits .or .u64 x117001_1 (ji23)), H', ⟨by have := HK1.out; first | omega | exact Nat.le_refl _⟩, ⟨by (with_reducible repeat (first | refine bN ?_ _ | refine bD ?_ | refine bL ?_ _)); refine bX ?_ NB114_118.out _; (with_reducible repeat (first | refine bN ?_ _ | refine bD ?_ | refine bL ?_ _)); exact BK114.out⟩, ⟨by (with_reducible repeat (first | refine bN ?_ _ | refine bD ?_ | refine bL ?_ _)); refine bX ?_ NB115_118.out _; (with_reducible repeat (first | refine bN ?_ _ | refine bD ?_ | refine bL ?_ _)); exact BK115.out⟩, ⟨by (with_reducible repeat (first | refine bN ?_ _ | refine bD ?_ | refine bL ?_ _)); refine bX ?_ NB116_118.out _; (with_reducible repeat (first | refine bN ?_ _ | refine bD ?_ | refine bL ?_ _)); exact BK116.out⟩, ⟨by (with_reducible repeat (first | refine bN ?_ _ | refine bD ?_ | refine bL ?_ _)); refine blk_put (cs := #[.int .u64 x117000_1, .int .u64 x117001_1]) ?_ 1 _ rfl; (with_reducible repeat (first | refine bN ?_ _ | refine bD ?_ | refine bL ?_ _)); exact BK118.out⟩, ⟨by repeat (first | (with_reducible first | exact HB.out | apply below_alloc | apply pN | apply dI | refine below_set ?_ GE114.out | refine below_set ?_ GE115.out | refine below_set ?_ GE116.out | refine below_set ?_ GE118.out) | exact HB.out)⟩⟩
      ·rw [if_neg c22] at H
       exact absurd H (by simp)
     ·rw [if_neg c20] at H
      have c20b0 : decide ((wrap64 (x4_1 - 1)) < 64) = false := decide_eq_false c20
      clear c20
      (first | rw [c20b0] | (simp only [i64_w, i32_w]; rw [c20b0]) | skip)
      obtain ⟨ji27, hji27⟩ : ∃ j_ : Int, (wrap64 ((wrap64 (x4_1 - 1)) - 64)) = j_ := ⟨_, rfl⟩
      replace H : (if 0 ≤ (ji27) then (limb_Sqrt.j1 k1 x4_1 a0_0 a0_1 a0_2 a0_3 x117000_1 x117001_1 (Go.bits .or .u64 x117000_1 (shl .u64 1 (ji27))) x117001_1) else (none)) = some (r1, r2) := by first | (rw [hji27] at H; exact H) | (simp only [hji27] at H ⊢; exact H)
      have hji27w : (IntKind.i64.wrap ((wrap64 (x4_1 - 1)) - 64)) = ji27 := (i64_w _).trans hji27
      by_cases c28 : 0 ≤ (ji27)
      ·rw [if_pos c28] at H
       have c28b0 := eq_true c28
       have c28b1 : decide (0 ≤ (ji27)) = true := decide_eq_true c28
       clear c28
       obtain ⟨ji29, hji29⟩ : ∃ j_ : Int, (shl .u64 1 (ji27)) = j_ := ⟨_, rfl⟩
       replace H : (limb_Sqrt.j1 k1 x4_1 a0_0 a0_1 a0_2 a0_3 x117000_1 x117001_1 (Go.bits .or .u64 x117000_1 (ji29)) x117001_1) = some (r1, r2) := by first | (rw [hji29] at H; exact H) | (simp only [hji29] at H ⊢; exact H)
       have hji29_ : (IntKind.u64.wrap (1 * 2 ^ min (ji27).toNat 64)) = ji29 := hji29
       have hji29z : (ji27) ≤ 64 → (IntKind.u64.wrap (1 * 2 ^ (ji27).toNat)) = ji29 := shl_small hji29
       have hji29u : (IntKind.u64.wrap (2 ^ min (ji27).toNat 64)) = ji29 := by have h_ := hji29_; rw [Int.one_mul] at h_; exact h_
       have hji29v : (ji27) ≤ 64 → (IntKind.u64.wrap (2 ^ (ji27).toNat)) = ji29 := fun hle_ => by have h_ := hji29z hle_; rw [Int.one_mul] at h_; exact h_
       have H' := Aside0.mk H
       clear H
       try go_wp2
       have n0_ : Aside0 (((w15.setCell ⟨gb118, 0, none⟩ (.int .u64 x117000_1)).setCell ⟨gb118, 1, none⟩ (.int .u64 x117001_1)).heap[gb114]? = some (.cells #[.int .u64 a0_0, .int .u64 a0_1, .int .u64 a0_2, .int .u64 a0_3] 26 (0, 0))) := ⟨by (with_reducible repeat (first | refine bN ?_ _ | refine bD ?_ | refine bL ?_ _)); refine bX ?_ NB114_118.out _; (with_reducible repeat (first | refine bN ?_ _ | refine bD ?_ | refine bL ?_ _)); refine bX ?_ NB114_118.out _; (with_reducible repeat (first | refine bN ?_ _ | refine bD ?_ | refine bL ?_ _)); exact BK114.out⟩
       have n1_ : Aside0 (((w15.setCell ⟨gb118, 0, none⟩ (.int .u64 x117000_1)).setCell ⟨gb118, 1, none⟩ (.int .u64 x117001_1)).heap[gb115]? = some (.cells #[.int .u64 0, .int .u64 0] 24 (0, 0))) := ⟨by (with_reducible repeat (first | refine bN ?_ _ | refine bD ?_ | refine bL ?_ _)); refine bX ?_ NB115_118.out _; (with_reducible repeat (first | refine bN ?_ _ | refine bD ?_ | refine bL ?_ _)); refine bX ?_ NB115_118.out _; (with_reducible repeat (first | refine bN ?_ _ | refine bD ?_ | refine bL ?_ _)); exact BK115.out⟩
       have n2_ : Aside0 (((w15.setCell ⟨gb118, 0, none⟩ (.int .u64 x117000_1)).setCell ⟨gb118, 1, none⟩ (.int .u64 x117001_1)).heap[gb116]? = some (.cells #[.int .u64 x117000_1, .int .u64 x117001_1] 24 (0, 0))) := ⟨by (with_reducible repeat (first | refine bN ?_ _ | refine bD ?_ | refine bL ?_ _)); refine bX ?_ NB116_118.out _; (with_reducible repeat (first | refine bN ?_ _ | refine bD ?_ | refine bL ?_ _)); refine bX ?_ NB116_118.out _; (with_reducible repeat (first | refine bN ?_ _ | refine bD ?_ | refine bL ?_ _)); exact BK116.out⟩
       have n3_ : Aside0 (((w15.setCell ⟨gb118, 0, none⟩ (.int .u64 x117000_1)).setCell ⟨gb118, 1, none⟩ (.int .u64 x117001_1)).heap[gb118]? = some (.cells #[.int .u64 x117000_1, .int .u64 x117001_1] 24 (0, 0))) := ⟨by (with_reducible repeat (first | refine bN ?_ _ | refine bD ?_ | refine bL ?_ _)); refine blk_put (cs := #[.int .u64 x117000_1, .int .u64 0]) ?_ 1 _ rfl; (with_reducible repeat (first | refine bN ?_ _ | refine bD ?_ | refine bL ?_ _)); refine blk_put (cs := #[.int .u64 0, .int .u64 0]) ?_ 0 _ rfl; (with_reducible repeat (first | refine bN ?_ _ | refine bD ?_ | refine bL ?_ _)); exact BK118.out⟩
       have n4_ : Aside0 (Below w.heap.size w ((w15.setCell ⟨gb118, 0, none⟩ (.int .u64 x117000_1)).setCell ⟨gb118, 1, none⟩ (.int .u64 x117001_1))) := ⟨by repeat (first | (with_reducible first | exact HB.out | apply below_alloc | apply pN | apply dI | refine below_set ?_ GE114.out | refine below_set ?_ GE115.out | refine below_set ?_ GE116.out | refine below_set ?_ GE118.out) | exact HB.out)⟩
       (try clear BK114)
       (try clear BK115)
       (try clear BK116)
       (try clear BK118)
       (try clear HB)
       generalize ((w15.setCell ⟨gb118, 0, none⟩ (.int .u64 x117000_1)).setCell ⟨gb118, 1, none⟩ (.int .u64 x117001_1)) = w30 at n0_ n1_ n2_ n3_ n4_ ⊢
       have BK114 := n0_
       have BK115 := n1_
       have BK116 := n2_
       have BK118 := n3_
       have HB := n4_
       clear n0_ n1_ n2_ n3_ n4_
       have n0_ := Aside0.mk (bD BK114.out)
       have n1_ := Aside0.mk (bD BK115.out)
       have n2_ := Aside0.mk (bD BK116.out)
       have n3_ := Aside0.mk (bD BK118.out)
       have n4_ := Aside0.mk (dI HB.out)
       clear BK114
       clear BK115
       clear BK116
       clear BK118
       clear HB
       have BK114 := n0_
       have BK115 := n1_
       have BK116 := n2_
       have BK118 := n3_
       have HB := n4_
       clear n0_ n1_ n2_ n3_ n4_
       refine start_ (n := 8) (S := fun w' => w'.cell? ⟨gb118, 0, none⟩ = some (.int .u64 x117000_1) ∧ w'.cell? ⟨gb118, 1, none⟩ = some (.int .u64 x117001_1)) (ds := [7]) (bA 8 0) (by kernel_rfl) rfl rfl ⟨(bC BK118.out 0).trans rfl, (bC BK118.out 1).trans rfl⟩ (fun hHeld => ?_); refine with_tabW limb_Sqrt.tab9 limb_Sqrt.bits9 (fun HT_ HW_ => ?_)
       generalize w30.drew = w31 at BK114 BK115 BK116 BK118 HB hHeld ⊢
       refine pure_ (i := 0) (N := some 26) (v := ?_) (a' := ?_) (bA 8 1) rfl rfl (any_of HT_.out (by kernel_rfl)) (fun _ _ _ h => h) (Or.inl ⟨by rfl, ?_⟩) ?_ ?_
       rotate_left
       ·intro w'
        go_simp
        with_reducible rfl
       rotate_left
       ·simp only [Act.put, List.setIfInBounds_toArray, List.set_cons_zero, List.set_cons_succ, i64_w, i32_w]
        rfl
       refine pure_ (i := 2) (N := some 28) (v := ?_) (a' := ?_) (bA 8 5) rfl rfl (any_of HT_.out (by kernel_rfl)) (fun _ _ _ h => h) (Or.inl ⟨by rfl, ?_⟩) ?_ ?_
       rotate_left
       ·intro w'
        go_simp
        with_reducible rfl
       rotate_left
       ·simp only [Act.put, List.setIfInBounds_toArray, List.set_cons_zero, List.set_cons_succ, i64_w, i32_w]
        rfl
       refine pure_ (i := 3) (N := some 29) (v := ?_) (a' := ?_) (bA 8 13) rfl rfl (any_of HT_.out (by kernel_rfl)) (fun _ _ _ h => h) (Or.inl ⟨by rfl, ?_⟩) ?_ ?_
       rotate_left
       ·intro w'
        go_simp
        with_reducible rfl
       rotate_left
       ·simp only [Act.put, List.setIfInBounds_toArray, List.set_cons_zero, List.set_cons_succ, i64_w, i32_w]
        rfl
       refine pure_ (i := 4) (N := some 30) (v := ?_) (a' := ?_) (bA 8 29) rfl rfl (any_of HT_.out (by kernel_rfl)) (fun _ _ _ h => h) (Or.inl ⟨by rfl, ?_⟩) ?_ ?_
       rotate_left
       ·intro w'
        go_simp
        with_reducible rfl
       rotate_left
       ·simp only [Act.put, List.setIfInBounds_toArray, List.set_cons_zero, List.set_cons_succ, i64_w, i32_w]
        rfl
       refine take_ (i := 1) (N := some 27) (v := ?_) (a' := ?_) (bA 8 31) rfl rfl (take_ofW HT_.out HW_.out (by kernel_rfl)) (fun _ _ _ h => h) (Or.inl ⟨by rfl, ?_⟩) hHeld ?_ ?_
       rotate_left
       ·rintro w' ⟨s0, s1⟩
        go_simp
        with_reducible rfl
       rotate_left
       ·simp only [Act.put, List.setIfInBounds_toArray, List.set_cons_zero, List.set_cons_succ, i64_w, i32_w]
        rfl
       refine pure_ (i := 5) (N := some 31) (v := ?_) (a' := ?_) (bA 8 63) rfl rfl (any_of HT_.out (by kernel_rfl)) (fun _ _ _ h => h) (Or.inl ⟨by rfl, ?_⟩) ?_ ?_
       rotate_left
       ·intro w'
        go_simp
        with_reducible rfl
       rotate_left
       ·simp only [Act.put, List.setIfInBounds_toArray, List.set_cons_zero, List.set_cons_succ, i64_w, i32_w]
        rfl
       refine pure_ (i := 6) (N := some 32) (v := ?_) (a' := ?_) (bA 8 127) rfl rfl (any_of HT_.out (by kernel_rfl)) (fun _ _ _ h => h) (Or.inl ⟨by rfl, ?_⟩) ?_ ?_
       rotate_left
       ·intro w'
        go_simp
        with_reducible rfl
       rotate_left
       ·simp only [Act.put, List.setIfInBounds_toArray, List.set_cons_zero, List.set_cons_succ, i64_w, i32_w]
        rfl
       refine last_ (i := 7) (N := none) (bA 8 255) rfl rfl (one_of HT_.out (by kernel_rfl)) (by decide) (fun K hK => ?_)
       have hs32 : w31.cell? ⟨gb118, 0, none⟩ = some (.int .u64 x117000_1) := (bC BK118.out 0).trans rfl
       have hfs32 := bF BK118.out 0
       have hns32_0 := NB114_118.out
       have hns32_1 := NB115_118.out
       have hns32_2 := NB116_118.out
       have hms32_0 := NB118_114.out
       have hms32_1 := NB118_115.out
       have hms32_2 := NB118_116.out
       refine skip_ (w1 := ?_) (by rfl) rfl ?_ ?_
       rotate_left
       ·go_simp
        rfl
       refine hK.out _ _ ?_
       clear hK K
       refine done_ (done_of HT_.out (by kernel_rfl)) ?_
       try go_wp2
       go_meet
       case rel => exact ⟨_, (Go.bits .or .u64 x117000_1 (ji29)), (x117001_1), H', ⟨by have := HK1.out; first | omega | exact Nat.le_refl _⟩, ⟨by (with_reducible repeat (first | refine bN ?_ _ | refine bD ?_ | refine bL ?_ _)); refine bX ?_ NB114_118.out _; (with_reducible repeat (first | refine bN ?_ _ | refine bD ?_ | refine bL ?_ _)); exact BK114.out⟩, ⟨by (with_reducible repeat (first | refine bN ?_ _ | refine bD ?_ | refine bL ?_ _)); refine bX ?_ NB115_118.out _; (with_reducible repeat (first | refine bN ?_ _ | refine bD ?_ | refine bL ?_ _)); exact BK115.out⟩, ⟨by (with_reducible repeat (first | refine bN ?_ _ | refine bD ?_ | refine bL ?_ _)); refine bX ?_ NB116_118.out _; (with_reducible repeat (first | refine bN ?_ _ | refine bD ?_ | refine bL ?_ _)); exact BK116.out⟩, ⟨by (with_reducible repeat (first | refine bN ?_ _ | refine bD ?_ | refine bL ?_ _)); refine blk_put (cs := #[.int .u64 x117000_1, .int .u64 x117001_1]) ?_ 0 _ rfl; (with_reducible repeat (first | refine bN ?_ _ | refine bD ?_ | refine bL ?_ _)); exact BK118.out⟩, ⟨by repeat (first | (with_reducible first | exact HB.out | apply below_alloc | apply pN | apply dI | refine below_set ?_ GE114.out | refine below_set ?_ GE115.out | refine below_set ?_ GE116.out | refine below_set ?_ GE118.out) | exact HB.out)⟩⟩
      ·rw [if_neg c28] at H
       exact absurd H (by simp)
    case rest =>
     clear HC11
     try clear c1
     try clear c2
     try clear p2
     try clear c6
     try clear p6
     try clear c7
     try clear c10
     try clear c10b0
     try clear c12
     try clear c13
     try clear c16
     try clear c17
     try clear c18
     try clear c20
     try clear c20b0
     try clear c21
     try clear c22
     try clear c22b0
     try clear c22b1
     try clear c28
     try clear c28b0
     try clear c28b1
     try clear hcz14_0
     try clear hcz14_1
     try clear hcz19_0
     try clear hcz19_1
     try clear hcz8_0
     try clear hcz8_1
     try clear hcz8_2
     try clear hcz8_3
     try clear hfz14_0
     try clear hfz14_1
     try clear hfz19_0
     try clear hfz19_1
     try clear hfz8_0
     try clear hfz8_1
     try clear hfz8_2
     try clear hfz8_3
     try clear p2
     try clear p6
     obtain ⟨kq, x119000_10, x119001_10, HA, HJ10, BK114, BK115, BK116, BK118, HB⟩ := hcut
     cases kq with
     | zero => exact absurd HA.out (by simp [limb_Sqrt.j1])
     | succ kj10 =>
      have H := HA.out
      clear HA
      simp only [limb_Sqrt.j1] at H
      replace H := Option.bind_eq_some_iff.mp H
      obtain ⟨⟨t119, t120, t121, t122⟩, A330, H⟩ := H
      replace H : ((limb_Cmp.f kj10 t119 t120 t121 t122 a0_0 a0_1 a0_2 a0_3).bind fun t123 => (if t123 ≤ 0 then (limb_Sqrt.l0 kj10 (wrap64 (x4_1 - 1)) a0_0 a0_1 a0_2 a0_3 x119000_10 x119001_10) else (limb_Sqrt.l0 kj10 (wrap64 (x4_1 - 1)) a0_0 a0_1 a0_2 a0_3 x117000_1 x117001_1))) = some (r1, r2) := H
      have A33 := Aside0.mk A330
      clear A330
      replace H := Option.bind_eq_some_iff.mp H
      obtain ⟨t123, A340, H⟩ := H
      replace H : (if t123 ≤ 0 then (limb_Sqrt.l0 kj10 (wrap64 (x4_1 - 1)) a0_0 a0_1 a0_2 a0_3 x119000_10 x119001_10) else (limb_Sqrt.l0 kj10 (wrap64 (x4_1 - 1)) a0_0 a0_1 a0_2 a0_3 x117000_1 x117001_1)) = some (r1, r2) := H
      have A34 := Aside0.mk A340
      clear A340
      by_cases c35 : t123 ≤ 0
      ·rw [if_pos c35] at H
       have c35b0 : decide (t123 ≤ 0) = true := decide_eq_true c35
       clear c35
       have H' := Aside0.mk H
       clear H
       try go_wp2
       have n0_ := Aside0.mk (bD BK114.out)
       have n1_ := Aside0.mk (bD BK115.out)
       have n2_ := Aside0.mk (bD BK116.out)
       have n3_ := Aside0.mk (bD BK118.out)
       have n4_ := Aside0.mk (dI HB.out)
       clear BK114
       clear BK115
       clear BK116
       clear BK118
       clear HB
       have BK114 := n0_
       have BK115 := n1_
       have BK116 := n2_
       have BK118 := n3_
       have HB := n4_
       clear n0_ n1_ n2_ n3_ n4_
       refine start_ (n := 6) (S := fun w' => w'.cell? ⟨gb118, 0, none⟩ = some (.int .u64 x119000_10) ∧ w'.cell? ⟨gb118, 1, none⟩ = some (.int .u64 x119001_10) ∧ w'.cell? ⟨gb114, 0, none⟩ = some (.int .u64 a0_0) ∧ w'.cell? ⟨gb114, 1, none⟩ = some (.int .u64 a0_1) ∧ w'.cell? ⟨gb114, 2, none⟩ = some (.int .u64 a0_2) ∧ w'.cell? ⟨gb114, 3, none⟩ = some (.int .u64 a0_3)) (ds := []) (bA 6 0) (by kernel_rfl) rfl rfl ⟨(bC BK118.out 0).trans rfl, (bC BK118.out 1).trans rfl, (bC BK114.out 0).trans rfl, (bC BK114.out 1).trans rfl, (bC BK114.out 2).trans rfl, (bC BK114.out 3).trans rfl⟩ (fun hHeld => ?_)
       generalize wc.drew = w36 at BK114 BK115 BK116 BK118 HB hHeld ⊢
       refine take_ (i := 0) (N := some 33) (v := ?_) (a' := ?_) (bA 6 1) rfl rfl (by kernel_rfl) (fun _ _ _ h => h) (Or.inl ⟨by rfl, ?_⟩) hHeld ?_ ?_
       rotate_left
       ·rintro w' ⟨s0, s1, s2, s3, s4, s5⟩
        go_simp
        with_reducible rfl
       rotate_left
       ·simp only [Act.put, List.setIfInBounds_toArray, List.set_cons_zero, List.set_cons_succ, i64_w, i32_w]
        rfl
       refine take_ (i := 1) (N := some 34) (v := ?_) (a' := ?_) (bA 6 3) rfl rfl (by kernel_rfl) (fun _ _ _ h => h) (Or.inl ⟨by rfl, ?_⟩) hHeld ?_ ?_
       rotate_left
       ·rintro w' ⟨s0, s1, s2, s3, s4, s5⟩
        go_simp
        with_reducible rfl
       rotate_left
       ·simp only [Act.put, List.setIfInBounds_toArray, List.set_cons_zero, List.set_cons_succ, i64_w, i32_w]
        rfl
       refine take_ (i := 3) (N := some 36) (v := ?_) (a' := ?_) (bA 6 11) rfl rfl (by kernel_rfl) (fun _ _ _ h => h) (Or.inl ⟨by rfl, ?_⟩) hHeld ?_ ?_
       rotate_left
       ·rintro w' ⟨s0, s1, s2, s3, s4, s5⟩
        go_simp
        with_reducible rfl
       rotate_left
       ·simp only [Act.put, List.setIfInBounds_toArray, List.set_cons_zero, List.set_cons_succ, i64_w, i32_w]
        rfl
       refine one_ (i := 2) (N := some 35) (bA 6 15) rfl rfl (by kernel_rfl) (by decide) (fun K hK => ?_)
       refine goes_ Try.func14 (by kernel_rfl) rfl #[.agg #[.int .u64 x119000_10, .int .u64 x119001_10], .agg #[.int .u64 x119000_10, .int .u64 x119001_10]] (by rfl) rfl rfl (by (try simp only [List.map_toArray, List.map_cons, List.map_nil]); first | done | rfl | (simp only [List.length_drop, List.length_take]; rfl)) ?_
       with_reducible refine (limb_Mul.calls x119000_10 x119001_10 x119000_10 x119001_10 t119 t120 t121 t122 _ A33.out).mono ?_
       rintro e w37 ⟨rfl, hb⟩
       refine ⟨_, rfl, ?_⟩
       have n0_ := Aside0.mk (bB (g := gb114) (o := .cells #[.int .u64 a0_0, .int .u64 a0_1, .int .u64 a0_2, .int .u64 a0_3] 26 (0, 0)) (by (with_reducible repeat (first | refine bN ?_ _ | refine bD ?_ | refine bL ?_ _)); exact BK114.out) hb)
       have n1_ := Aside0.mk (bB (g := gb115) (o := .cells #[.int .u64 0, .int .u64 0] 24 (0, 0)) (by (with_reducible repeat (first | refine bN ?_ _ | refine bD ?_ | refine bL ?_ _)); exact BK115.out) hb)
       have n2_ := Aside0.mk (bB (g := gb116) (o := .cells #[.int .u64 x117000_1, .int .u64 x117001_1] 24 (0, 0)) (by (with_reducible repeat (first | refine bN ?_ _ | refine bD ?_ | refine bL ?_ _)); exact BK116.out) hb)
       have n3_ := Aside0.mk (bB (g := gb118) (o := .cells #[.int .u64 x119000_10, .int .u64 x119001_10] 24 (0, 0)) (by (with_reducible repeat (first | refine bN ?_ _ | refine bD ?_ | refine bL ?_ _)); exact BK118.out) hb)
       have n4_ := Aside0.mk (below_step (by repeat (first | (with_reducible first | exact HB.out | apply below_alloc | apply pN | apply dI | refine below_set ?_ GE114.out | refine below_set ?_ GE115.out | refine below_set ?_ GE116.out | refine below_set ?_ GE118.out) | exact HB.out)) hb)
       clear BK114
       clear BK115
       clear BK116
       clear BK118
       clear HB
       have BK114 := n0_
       have BK115 := n1_
       have BK116 := n2_
       have BK118 := n3_
       have HB := n4_
       clear n0_ n1_ n2_ n3_ n4_
       (try clear hb)
       (try clear hb2)
       (try clear hk)
       (try clear hi)
       refine hK.out _ _ ⟨(bC BK118.out 0).trans rfl, (bC BK118.out 1).trans rfl, (bC BK114.out 0).trans rfl, (bC BK114.out 1).trans rfl, (bC BK114.out 2).trans rfl, (bC BK114.out 3).trans rfl⟩ (fun hHeld => ?_)
       clear hK K
       refine norm_ (a' := ?_) ?_ ?_
       rotate_left
       ·show Act.put _ (some 35) _ = _
        simp only [Act.put, List.setIfInBounds_toArray, List.set_cons_zero, List.set_cons_succ, i64_w, i32_w]
        rfl
       refine one_ (i := 4) (N := some 37) (bA 6 31) rfl rfl (by kernel_rfl) (by decide) (fun K hK => ?_)
       refine goes_ Try.func22 (by kernel_rfl) rfl #[.agg #[.int .u64 t119, .int .u64 t120, .int .u64 t121, .int .u64 t122], .agg #[.int .u64 a0_0, .int .u64 a0_1, .int .u64 a0_2, .int .u64 a0_3]] (by rfl) rfl rfl (by (try simp only [List.map_toArray, List.map_cons, List.map_nil]); first | done | rfl | (simp only [List.length_drop, List.length_take]; rfl)) ?_
       with_reducible refine (limb_Cmp.calls kj10 t119 t120 t121 t122 a0_0 a0_1 a0_2 a0_3 t123 _ A34.out).mono ?_
       rintro e w38 ⟨rfl, hb⟩
       refine ⟨_, rfl, ?_⟩
       have n0_ := Aside0.mk (bB (g := gb114) (o := .cells #[.int .u64 a0_0, .int .u64 a0_1, .int .u64 a0_2, .int .u64 a0_3] 26 (0, 0)) (by (with_reducible repeat (first | refine bN ?_ _ | refine bD ?_ | refine bL ?_ _)); exact BK114.out) hb)
       have n1_ := Aside0.mk (bB (g := gb115) (o := .cells #[.int .u64 0, .int .u64 0] 24 (0, 0)) (by (with_reducible repeat (first | refine bN ?_ _ | refine bD ?_ | refine bL ?_ _)); exact BK115.out) hb)
       have n2_ := Aside0.mk (bB (g := gb116) (o := .cells #[.int .u64 x117000_1, .int .u64 x117001_1] 24 (0, 0)) (by (with_reducible repeat (first | refine bN ?_ _ | refine bD ?_ | refine bL ?_ _)); exact BK116.out) hb)
       have n3_ := Aside0.mk (bB (g := gb118) (o := .cells #[.int .u64 x119000_10, .int .u64 x119001_10] 24 (0, 0)) (by (with_reducible repeat (first | refine bN ?_ _ | refine bD ?_ | refine bL ?_ _)); exact BK118.out) hb)
       have n4_ := Aside0.mk (below_step (by repeat (first | (with_reducible first | exact HB.out | apply below_alloc | apply pN | apply dI | refine below_set ?_ GE114.out | refine below_set ?_ GE115.out | refine below_set ?_ GE116.out | refine below_set ?_ GE118.out) | exact HB.out)) hb)
       clear BK114
       clear BK115
       clear BK116
       clear BK118
       clear HB
       have BK114 := n0_
       have BK115 := n1_
       have BK116 := n2_
       have BK118 := n3_
       have HB := n4_
       clear n0_ n1_ n2_ n3_ n4_
       (try clear hb)
       (try clear hb2)
       (try clear hk)
       (try clear hi)
       refine hK.out _ _ ⟨(bC BK118.out 0).trans rfl, (bC BK118.out 1).trans rfl, (bC BK114.out 0).trans rfl, (bC BK114.out 1).trans rfl, (bC BK114.out 2).trans rfl, (bC BK114.out 3).trans rfl⟩ (fun hHeld => ?_)
       clear hK K
       refine norm_ (a' := ?_) ?_ ?_
       rotate_left
       ·show Act.put _ (some 37) _ = _
        simp only [Act.put, List.setIfInBounds_toArray, List.set_cons_zero, List.set_cons_succ, i64_w, i32_w]
        rfl
       refine pure_ (i := 5) (N := some 38) (v := ?_) (a' := ?_) (bA 6 63) rfl rfl (by kernel_rfl) (fun _ _ _ h => h) (Or.inl ⟨by rfl, ?_⟩) ?_ ?_
       rotate_left
       ·intro w'
        go_simp
        with_reducible rfl
       rotate_left
       ·simp only [Act.put, List.setIfInBounds_toArray, List.set_cons_zero, List.set_cons_succ, i64_w, i32_w]
        rfl
       refine done_ (by kernel_rfl) ?_
       have hnb39 := NB118_114.out
       have hnc39 := NB114_118.out
       have hnb40 := NB118_115.out
       have hnc40 := NB115_118.out
       have hnb41 := NB118_116.out
       have hnc41 := NB116_118.out
       have hcz42_0 : w38.cell? ⟨gb118, 0, none⟩ = some (.int .u64 x119000_10) := (bC BK118.out 0).trans rfl
       have hcz42_1 : w38.cell? ⟨gb118, 1, none⟩ = some (.int .u64 x119001_10) := (bC BK118.out 1).trans rfl
       have hfz42_0 := bF BK118.out 0
       have hfz42_1 := bF BK118.out 1
       have hnb43 := NB116_114.out
       have hnc43 := NB114_116.out
       have hnb44 := NB116_115.out
       have hnc44 := NB115_116.out
       have hcz45_0 : w38.cell? ⟨gb116, 0, none⟩ = some (.int .u64 x117000_1) := (bC BK116.out 0).trans rfl
       have hcz45_1 : w38.cell? ⟨gb116, 1, none⟩ = some (.int .u64 x117001_1) := (bC BK116.out 1).trans rfl
       have hfz45_0 := bF BK116.out 0
       have hfz45_1 := bF BK116.out 1
       try go_wp2
       go_roundg kj10
       case measure => have := HK1.out; have := HJ10.out; omega
       case rel => exact ⟨(wrap64 (x4_1 - 1)), (x119000_10), (x119001_10), (by first | rfl | (simp; done) | (simp [*]; done)), H', ⟨by have := HK1.out; have := HJ10.out; omega⟩, ⟨by (with_reducible repeat (first | refine bN ?_ _ | refine bD ?_ | refine bL ?_ _)); refine bX ?_ NB114_116.out _; (with_reducible repeat (first | refine bN ?_ _ | refine bD ?_ | refine bL ?_ _)); refine bX ?_ NB114_116.out _; (with_reducible repeat (first | refine bN ?_ _ | refine bD ?_ | refine bL ?_ _)); exact BK114.out⟩, ⟨by (with_reducible repeat (first | refine bN ?_ _ | refine bD ?_ | refine bL ?_ _)); refine bX ?_ NB115_116.out _; (with_reducible repeat (first | refine bN ?_ _ | refine bD ?_ | refine bL ?_ _)); refine bX ?_ NB115_116.out _; (with_reducible repeat (first | refine bN ?_ _ | refine bD ?_ | refine bL ?_ _)); exact BK115.out⟩, ⟨by (with_reducible repeat (first | refine bN ?_ _ | refine bD ?_ | refine bL ?_ _)); refine blk_put (cs := #[.int .u64 x119000_10, .int .u64 x117001_1]) ?_ 1 _ rfl; (with_reducible repeat (first | refine bN ?_ _ | refine bD ?_ | refine bL ?_ _)); refine blk_put (cs := #[.int .u64 x117000_1, .int .u64 x117001_1]) ?_ 0 _ rfl; (with_reducible repeat (first | refine bN ?_ _ | refine bD ?_ | refine bL ?_ _)); exact BK116.out⟩, ⟨by repeat (first | (with_reducible first | exact HB.out | apply below_alloc | apply pN | apply dI | refine below_set ?_ GE114.out | refine below_set ?_ GE115.out | refine below_set ?_ GE116.out | refine below_set ?_ GE118.out) | exact HB.out)⟩⟩
      ·rw [if_neg c35] at H
       have c35b0 : decide (t123 ≤ 0) = false := decide_eq_false c35
       clear c35
       have H' := Aside0.mk H
       clear H
       try go_wp2
       have n0_ := Aside0.mk (bD BK114.out)
       have n1_ := Aside0.mk (bD BK115.out)
       have n2_ := Aside0.mk (bD BK116.out)
       have n3_ := Aside0.mk (bD BK118.out)
       have n4_ := Aside0.mk (dI HB.out)
       clear BK114
       clear BK115
       clear BK116
       clear BK118
       clear HB
       have BK114 := n0_
       have BK115 := n1_
       have BK116 := n2_
       have BK118 := n3_
       have HB := n4_
       clear n0_ n1_ n2_ n3_ n4_
       refine start_ (n := 6) (S := fun w' => w'.cell? ⟨gb118, 0, none⟩ = some (.int .u64 x119000_10) ∧ w'.cell? ⟨gb118, 1, none⟩ = some (.int .u64 x119001_10) ∧ w'.cell? ⟨gb114, 0, none⟩ = some (.int .u64 a0_0) ∧ w'.cell? ⟨gb114, 1, none⟩ = some (.int .u64 a0_1) ∧ w'.cell? ⟨gb114, 2, none⟩ = some (.int .u64 a0_2) ∧ w'.cell? ⟨gb114, 3, none⟩ = some (.int .u64 a0_3)) (ds := []) (bA 6 0) (by kernel_rfl) rfl rfl ⟨(bC BK118.out 0).trans rfl, (bC BK118.out 1).trans rfl, (bC BK114.out 0).trans rfl, (bC BK114.out 1).trans rfl, (bC BK114.out 2).trans rfl, (bC BK114.out 3).trans rfl⟩ (fun hHeld => ?_)
       generalize wc.drew = w46 at BK114 BK115 BK116 BK118 HB hHeld ⊢
       refine take_ (i := 0) (N := some 33) (v := ?_) (a' := ?_) (bA 6 1) rfl rfl (by kernel_rfl) (fun _ _ _ h => h) (Or.inl ⟨by rfl, ?_⟩) hHeld ?_ ?_
       rotate_left
       ·rintro w' ⟨s0, s1, s2, s3, s4, s5⟩
        go_simp
        with_reducible rfl
       rotate_left
       ·simp only [Act.put, List.setIfInBounds_toArray, List.set_cons_zero, List.set_cons_succ, i64_w, i32_w]
        rfl
       refine take_ (i := 1) (N := some 34) (v := ?_) (a' := ?_) (bA 6 3) rfl rfl (by kernel_rfl) (fun _ _ _ h => h) (Or.inl ⟨by rfl, ?_⟩) hHeld ?_ ?_
       rotate_left
       ·rintro w' ⟨s0, s1, s2, s3, s4, s5⟩
        go_simp
        with_reducible rfl
       rotate_left
       ·simp only [Act.put, List.setIfInBounds_toArray, List.set_cons_zero, List.set_cons_succ, i64_w, i32_w]
        rfl
       refine take_ (i := 3) (N := some 36) (v := ?_) (a' := ?_) (bA 6 11) rfl rfl (by kernel_rfl) (fun _ _ _ h => h) (Or.inl ⟨by rfl, ?_⟩) hHeld ?_ ?_
       rotate_left
       ·rintro w' ⟨s0, s1, s2, s3, s4, s5⟩
        go_simp
        with_reducible rfl
       rotate_left
       ·simp only [Act.put, List.setIfInBounds_toArray, List.set_cons_zero, List.set_cons_succ, i64_w, i32_w]
        rfl
       refine one_ (i := 2) (N := some 35) (bA 6 15) rfl rfl (by kernel_rfl) (by decide) (fun K hK => ?_)
       refine goes_ Try.func14 (by kernel_rfl) rfl #[.agg #[.int .u64 x119000_10, .int .u64 x119001_10], .agg #[.int .u64 x119000_10, .int .u64 x119001_10]] (by rfl) rfl rfl (by (try simp only [List.map_toArray, List.map_cons, List.map_nil]); first | done | rfl | (simp only [List.length_drop, List.length_take]; rfl)) ?_
       with_reducible refine (limb_Mul.calls x119000_10 x119001_10 x119000_10 x119001_10 t119 t120 t121 t122 _ A33.out).mono ?_
       rintro e w47 ⟨rfl, hb⟩
       refine ⟨_, rfl, ?_⟩
       have n0_ := Aside0.mk (bB (g := gb114) (o := .cells #[.int .u64 a0_0, .int .u64 a0_1, .int .u64 a0_2, .int .u64 a0_3] 26 (0, 0)) (by (with_reducible repeat (first | refine bN ?_ _ | refine bD ?_ | refine bL ?_ _)); exact BK114.out) hb)
       have n1_ := Aside0.mk (bB (g := gb115) (o := .cells #[.int .u64 0, .int .u64 0] 24 (0, 0)) (by (with_reducible repeat (first | refine bN ?_ _ | refine bD ?_ | refine bL ?_ _)); exact BK115.out) hb)
       have n2_ := Aside0.mk (bB (g := gb116) (o := .cells #[.int .u64 x117000_1, .int .u64 x117001_1] 24 (0, 0)) (by (with_reducible repeat (first | refine bN ?_ _ | refine bD ?_ | refine bL ?_ _)); exact BK116.out) hb)
       have n3_ := Aside0.mk (bB (g := gb118) (o := .cells #[.int .u64 x119000_10, .int .u64 x119001_10] 24 (0, 0)) (by (with_reducible repeat (first | refine bN ?_ _ | refine bD ?_ | refine bL ?_ _)); exact BK118.out) hb)
       have n4_ := Aside0.mk (below_step (by repeat (first | (with_reducible first | exact HB.out | apply below_alloc | apply pN | apply dI | refine below_set ?_ GE114.out | refine below_set ?_ GE115.out | refine below_set ?_ GE116.out | refine below_set ?_ GE118.out) | exact HB.out)) hb)
       clear BK114
       clear BK115
       clear BK116
       clear BK118
       clear HB
       have BK114 := n0_
       have BK115 := n1_
       have BK116 := n2_
       have BK118 := n3_
       have HB := n4_
       clear n0_ n1_ n2_ n3_ n4_
       (try clear hb)
       (try clear hb2)
       (try clear hk)
       (try clear hi)
       refine hK.out _ _ ⟨(bC BK118.out 0).trans rfl, (bC BK118.out 1).trans rfl, (bC BK114.out 0).trans rfl, (bC BK114.out 1).trans rfl, (bC BK114.out 2).trans rfl, (bC BK114.out 3).trans rfl⟩ (fun hHeld => ?_)
       clear hK K
       refine norm_ (a' := ?_) ?_ ?_
       rotate_left
       ·show Act.put _ (some 35) _ = _
        simp only [Act.put, List.setIfInBounds_toArray, List.set_cons_zero, List.set_cons_succ, i64_w, i32_w]
        rfl
       refine one_ (i := 4) (N := some 37) (bA 6 31) rfl rfl (by kernel_rfl) (by decide) (fun K hK => ?_)
       refine goes_ Try.func22 (by kernel_rfl) rfl #[.agg #[.int .u64 t119, .int .u64 t120, .int .u64 t121, .int .u64 t122], .agg #[.int .u64 a0_0, .int .u64 a0_1, .int .u64 a0_2, .int .u64 a0_3]] (by rfl) rfl rfl (by (try simp only [List.map_toArray, List.map_cons, List.map_nil]); first | done | rfl | (simp only [List.length_drop, List.length_take]; rfl)) ?_
       with_reducible refine (limb_Cmp.calls kj10 t119 t120 t121 t122 a0_0 a0_1 a0_2 a0_3 t123 _ A34.out).mono ?_
       rintro e w48 ⟨rfl, hb⟩
       refine ⟨_, rfl, ?_⟩
       have n0_ := Aside0.mk (bB (g := gb114) (o := .cells #[.int .u64 a0_0, .int .u64 a0_1, .int .u64 a0_2, .int .u64 a0_3] 26 (0, 0)) (by (with_reducible repeat (first | refine bN ?_ _ | refine bD ?_ | refine bL ?_ _)); exact BK114.out) hb)
       have n1_ := Aside0.mk (bB (g := gb115) (o := .cells #[.int .u64 0, .int .u64 0] 24 (0, 0)) (by (with_reducible repeat (first | refine bN ?_ _ | refine bD ?_ | refine bL ?_ _)); exact BK115.out) hb)
       have n2_ := Aside0.mk (bB (g := gb116) (o := .cells #[.int .u64 x117000_1, .int .u64 x117001_1] 24 (0, 0)) (by (with_reducible repeat (first | refine bN ?_ _ | refine bD ?_ | refine bL ?_ _)); exact BK116.out) hb)
       have n3_ := Aside0.mk (bB (g := gb118) (o := .cells #[.int .u64 x119000_10, .int .u64 x119001_10] 24 (0, 0)) (by (with_reducible repeat (first | refine bN ?_ _ | refine bD ?_ | refine bL ?_ _)); exact BK118.out) hb)
       have n4_ := Aside0.mk (below_step (by repeat (first | (with_reducible first | exact HB.out | apply below_alloc | apply pN | apply dI | refine below_set ?_ GE114.out | refine below_set ?_ GE115.out | refine below_set ?_ GE116.out | refine below_set ?_ GE118.out) | exact HB.out)) hb)
       clear BK114
       clear BK115
       clear BK116
       clear BK118
       clear HB
       have BK114 := n0_
       have BK115 := n1_
       have BK116 := n2_
       have BK118 := n3_
       have HB := n4_
       clear n0_ n1_ n2_ n3_ n4_
       (try clear hb)
       (try clear hb2)
       (try clear hk)
       (try clear hi)
       refine hK.out _ _ ⟨(bC BK118.out 0).trans rfl, (bC BK118.out 1).trans rfl, (bC BK114.out 0).trans rfl, (bC BK114.out 1).trans rfl, (bC BK114.out 2).trans rfl, (bC BK114.out 3).trans rfl⟩ (fun hHeld => ?_)
       clear hK K
       refine norm_ (a' := ?_) ?_ ?_
       rotate_left
       ·show Act.put _ (some 37) _ = _
        simp only [Act.put, List.setIfInBounds_toArray, List.set_cons_zero, List.set_cons_succ, i64_w, i32_w]
        rfl
       refine pure_ (i := 5) (N := some 38) (v := ?_) (a' := ?_) (bA 6 63) rfl rfl (by kernel_rfl) (fun _ _ _ h => h) (Or.inl ⟨by rfl, ?_⟩) ?_ ?_
       rotate_left
       ·intro w'
        go_simp
        with_reducible rfl
       rotate_left
       ·simp only [Act.put, List.setIfInBounds_toArray, List.set_cons_zero, List.set_cons_succ, i64_w, i32_w]
        rfl
       refine done_ (by kernel_rfl) ?_
       try go_wp2
       go_roundg kj10
       case measure => have := HK1.out; have := HJ10.out; omega
       case rel => exact ⟨(wrap64 (x4_1 - 1)), (x117000_1), (x117001_1), (by first | rfl | (simp; done) | (simp [*]; done)), H', ⟨by have := HK1.out; have := HJ10.out; omega⟩, ⟨by (with_reducible repeat (first | refine bN ?_ _ | refine bD ?_ | refine bL ?_ _)); exact BK114.out⟩, ⟨by (with_reducible repeat (first | refine bN ?_ _ | refine bD ?_ | refine bL ?_ _)); exact BK115.out⟩, ⟨by (with_reducible repeat (first | refine bN ?_ _ | refine bD ?_ | refine bL ?_ _)); exact BK116.out⟩, ⟨by repeat (first | (with_reducible first | exact HB.out | apply below_alloc | apply pN | apply dI | refine below_set ?_ GE114.out | refine below_set ?_ GE115.out | refine below_set ?_ GE116.out | refine below_set ?_ GE118.out) | exact HB.out)⟩⟩
   ·rw [if_neg c10] at H
    have c10b0 : decide (0 < x4_1) = false := decide_eq_false c10
    clear c10
    simp only [Option.some.injEq, Prod.mk.injEq] at H
    obtain ⟨rfl, rfl⟩ := H
    have hnb49 := NB116_114.out
    have hnc49 := NB114_116.out
    have hnb50 := NB116_115.out
    have hnc50 := NB115_116.out
    have hcz51_0 : wr.cell? ⟨gb116, 0, none⟩ = some (.int .u64 x117000_1) := (bC BK116.out 0).trans rfl
    have hcz51_1 : wr.cell? ⟨gb116, 1, none⟩ = some (.int .u64 x117001_1) := (bC BK116.out 1).trans rfl
    have hfz51_0 := bF BK116.out 0
    have hfz51_1 := bF BK116.out 1
    have hnb52 := NB115_114.out
    have hnc52 := NB114_115.out
    have hcz53_0 : wr.cell? ⟨gb115, 0, none⟩ = some (.int .u64 0) := (bC BK115.out 0).trans rfl
    have hcz53_1 : wr.cell? ⟨gb115, 1, none⟩ = some (.int .u64 0) := (bC BK115.out 1).trans rfl
    have hfz53_0 := bF BK115.out 0
    have hfz53_1 := bF BK115.out 1
    go_wp2
    refine bodyPost_ret (results_cell_row rfl _ _ gb115 24 #[.int .u64 x117000_1, .int .u64 x117001_1] (0, 0) _ rfl (by (with_reducible repeat (first | refine bN ?_ _ | refine bD ?_ | refine bL ?_ _)); refine blk_put (cs := #[.int .u64 x117000_1, .int .u64 0]) ?_ 1 _ rfl; (with_reducible repeat (first | refine bN ?_ _ | refine bD ?_ | refine bL ?_ _)); refine blk_put (cs := #[.int .u64 0, .int .u64 0]) ?_ 0 _ rfl; (with_reducible repeat (first | refine bN ?_ _ | refine bD ?_ | refine bL ?_ _)); exact BK115.out) Try.underlying24 rfl (by kernel_rfl)) rfl ?_
    exact ⟨by first | rfl | (simp [errW_none, errW_some] <;> rfl) | (simp [*, errW_none, errW_some] <;> rfl), by repeat (first | (with_reducible first | exact HB.out | apply below_alloc | apply pN | apply dI | refine below_set ?_ GE114.out | refine below_set ?_ GE115.out | refine below_set ?_ GE116.out) | exact HB.out)⟩

/-! ### perigeelaw1_awake: function 16 -/
def perigeelaw1_awake.f (k : Nat)  : Option (Bool) := (limb_Div.f 0 0 0 17 0 5).bind fun bt124 => ((limb_Sqrt.f k 0 0 0 99).bind fun bt133 => (if (bt133.1 == 0 && (bt133.2 == 9)) = true then (if bt124.2.2.2.2.2.2 = true then (if bt124.2.2.2.1 = 3 then (some (bt124.2.2.2.2.2.1 == 2)) else (some false)) else (some false)) else (some false)))
theorem perigeelaw1_awake.mono : ∀ k, LeO (perigeelaw1_awake.f k ) (perigeelaw1_awake.f (k + 1) ) := by
 intro  k
 unfold perigeelaw1_awake.f
 repeat' first
   | (with_reducible exact limb_Sqrt.mono _ _ _ _ _)
   | (with_reducible exact LeO.refl _)
   | (with_reducible exact LeO.none _)
   | (with_reducible refine LeO.ite ?_ ?_)
   | (with_reducible refine LeO.bind ?_ (fun _ => ?_))
   | exact limb_Sqrt.mono _ _ _ _ _
   | exact LeO.none _
   | refine LeO.ite ?_ ?_
   | refine LeO.bind ?_ (fun _ => ?_)
set_option maxHeartbeats 8000000 in
set_option maxRecDepth 100000 in
theorem perigeelaw1_awake.calls (k : Nat)  (r : Bool) (w : World) (h : perigeelaw1_awake.f k  = some r) :
  Calls Try.prog 16 #[] w fun e w' => e = .returned (.bool r) ∧ Below w.heap.size w w' := by
 have hu24 := Try.underlying24
 have hu26 := Try.underlying26
 have HB := Aside0.mk (Below.refl w.heap.size w)
 have H : ((limb_Div.f 0 0 0 17 0 5).bind fun bt124 => ((limb_Sqrt.f k 0 0 0 99).bind fun bt133 => (if (bt133.1 == 0 && (bt133.2 == 9)) = true then (if bt124.2.2.2.2.2.2 = true then (if bt124.2.2.2.1 = 3 then (some (bt124.2.2.2.2.2.1 == 2)) else (some false)) else (some false)) else (some false)))) = some r := h
 clear h
 replace H := Option.bind_eq_some_iff.mp H
 obtain ⟨⟨t124, t125, t126, t127, t128, t129, t130⟩, A10, H⟩ := H
 replace H : ((limb_Sqrt.f k 0 0 0 99).bind fun bt133 => (if (bt133.1 == 0 && (bt133.2 == 9)) = true then (if t130 = true then (if t127 = 3 then (some (t129 == 2)) else (some false)) else (some false)) else (some false))) = some r := H
 have A1 := Aside0.mk A10
 clear A10
 replace H := Option.bind_eq_some_iff.mp H
 obtain ⟨⟨t133, t134⟩, A20, H⟩ := H
 replace H : (if (t133 == 0 && (t134 == 9)) = true then (if t130 = true then (if t127 = 3 then (some (t129 == 2)) else (some false)) else (some false)) else (some false)) = some r := H
 have A2 := Aside0.mk A20
 clear A20
 by_cases c3 : (t133 == 0 && (t134 == 9)) = true
 ·rw [if_pos c3] at H
  have c3b0 : (t133 == 0 && (t134 == 9)) = true := c3
  (try (have c3b1 : decide (t133 = 0 && (t134 == 9)) = true := by simpa using c3))
  (try (have c3b2 : (t133 == 0 && (t134 == 9)) = true := by simpa using c3))
  clear c3
  by_cases c4 : t130 = true
  ·subst c4
   have H1 : (if t127 = 3 then (some (t129 == 2)) else (some false)) = some r := by rw [if_pos rfl] at H; exact H
   clear H
   have H := H1
   clear H1
   by_cases c5 : t127 = 3
   ·rw [if_pos c5] at H
    have c5b0 : (t127 == 3) = true := beq_iff_eq.mpr c5
    have c5b1 : (t127 != 3) = false := bne_eq_false_iff_eq.mpr c5
    clear c5
    obtain rfl := Option.some.inj H
    go_enter Try.func16, Try.ntmps16
    go_wp2_with (first | ((with_reducible refine gate_callee (f := 12) rfl ?_); refine goesL_ (some 8) rfl rfl Try.func12 (by kernel_rfl) rfl #[.agg #[.int .u64 0, .int .u64 0, .int .u64 0, .int .u64 17], .agg #[.int .u64 0, .int .u64 5]] rfl (by (try simp only [List.map_toArray, List.map_cons, List.map_nil]); first | done | rfl | (simp only [List.length_drop, List.length_take]; rfl)) ?_; (with_reducible refine (limb_Div.calls 0 0 0 17 0 5 t124 t125 t126 t127 t128 t129 true _ A1.out).mono ?_); rintro e w6 ⟨rfl, hb⟩; refine ⟨_, rfl, ?_⟩; have n0_ := Aside0.mk (below_step (by repeat (first | (with_reducible first | exact HB.out | apply below_alloc | apply pN | apply dI) | exact HB.out)) hb); clear HB; have HB := n0_; clear n0_; (try clear hb); (try clear hb2); (try clear hk); (try clear hi)) | ((with_reducible refine gate_dst (N := 1) rfl ?_); refine box_event ?hg (N := 1) ?hd (cs := #[.int .u64 0, .int .u64 0, .int .u64 0, .int .u64 0]) (t := 26) ?hr ?_; (case hd => rfl); (case hg => rfl); (case hr => first | (go_simp; done) | (go_simp; rfl)); intro gb131 hg w7 hbox hb; have n0_ := Aside0.mk (below_step (by repeat (first | (with_reducible first | exact HB.out | apply below_alloc | apply pN | apply dI) | exact HB.out)) hb); have n1_ := Aside0.mk (hbox); have n2_ := Aside0.mk ((by rw [hg]; exact (below_size (by repeat (first | (with_reducible first | exact HB.out | apply below_alloc | apply pN | apply dI) | exact HB.out))) : w.heap.size ≤ gb131)); have n3_ := Aside0.mk ((by rw [hg]; exact (below_size (by repeat (first | (with_reducible first | exact HB.out | apply below_alloc | apply pN | apply dI) | exact HB.out))) : w.heap.size ≤ gb131)); clear HB; have HB := n0_; have BK131 := n1_; have GW131 := n2_; have GE131 := n3_; clear n0_ n1_ n2_ n3_; clear hb hbox hg) | ((with_reducible refine gate_dst (N := 2) rfl ?_); refine box_event ?hg (N := 2) ?hd (cs := #[.int .u64 0, .int .u64 0]) (t := 24) ?hr ?_; (case hd => rfl); (case hg => rfl); (case hr => first | (go_simp; done) | (go_simp; rfl)); intro gb132 hg w8 hbox hb; have n0_ := Aside0.mk (bB (g := gb131) (o := .cells #[.int .u64 0, .int .u64 0, .int .u64 0, .int .u64 0] 26 (0, 0)) (by (with_reducible repeat (first | refine bN ?_ _ | refine bD ?_ | refine bL ?_ _)); exact BK131.out) hb); have n1_ := Aside0.mk (below_step (by repeat (first | (with_reducible first | exact HB.out | apply below_alloc | apply pN | apply dI | refine below_set ?_ GE131.out) | exact HB.out)) hb); have n2_ := Aside0.mk (hbox); have n3_ := Aside0.mk ((by rw [hg]; exact (below_size (by repeat (first | (with_reducible first | exact HB.out | apply below_alloc | apply pN | apply dI | refine below_set ?_ GE131.out) | exact HB.out))) : w.heap.size ≤ gb132)); have n4_ := Aside0.mk ((by rw [hg]; exact (below_size (by repeat (first | (with_reducible first | exact HB.out | apply below_alloc | apply pN | apply dI | refine below_set ?_ GE131.out) | exact HB.out))) : w.heap.size ≤ gb132)); have n5_ := Aside0.mk ((by rw [hg]; exact Nat.ne_of_lt (blk_lt (g := gb131) (o := .cells #[.int .u64 0, .int .u64 0, .int .u64 0, .int .u64 0] 26 (0, 0)) (by (with_reducible repeat (first | refine bN ?_ _ | refine bD ?_ | refine bL ?_ _)); exact BK131.out)) : gb131 ≠ gb132)); have n6_ := Aside0.mk ((by rw [hg]; exact Nat.ne_of_gt (blk_lt (g := gb131) (o := .cells #[.int .u64 0, .int .u64 0, .int .u64 0, .int .u64 0] 26 (0, 0)) (by (with_reducible repeat (first | refine bN ?_ _ | refine bD ?_ | refine bL ?_ _)); exact BK131.out)) : gb132 ≠ gb131)); clear BK131; clear HB; have BK131 := n0_; have HB := n1_; have BK132 := n2_; have GW132 := n3_; have GE132 := n4_; have NB131_132 := n5_; have NB132_131 := n6_; clear n0_ n1_ n2_ n3_ n4_ n5_ n6_; clear hb hbox hg; have hnb9 := NB131_132.out; have hnc9 := NB132_131.out; have hcz10_0 : w8.cell? ⟨gb131, 0, none⟩ = some (.int .u64 0) := (bC BK131.out 0).trans rfl; have hcz10_1 : w8.cell? ⟨gb131, 1, none⟩ = some (.int .u64 0) := (bC BK131.out 1).trans rfl; have hcz10_2 : w8.cell? ⟨gb131, 2, none⟩ = some (.int .u64 0) := (bC BK131.out 2).trans rfl; have hcz10_3 : w8.cell? ⟨gb131, 3, none⟩ = some (.int .u64 0) := (bC BK131.out 3).trans rfl; have hfz10_0 := bF BK131.out 0; have hfz10_1 := bF BK131.out 1; have hfz10_2 := bF BK131.out 2; have hfz10_3 := bF BK131.out 3; have hcz11_0 : w8.cell? ⟨gb132, 0, none⟩ = some (.int .u64 0) := (bC BK132.out 0).trans rfl; have hcz11_1 : w8.cell? ⟨gb132, 1, none⟩ = some (.int .u64 0) := (bC BK132.out 1).trans rfl; have hfz11_0 := bF BK132.out 0; have hfz11_1 := bF BK132.out 1) | ((with_reducible refine gate_callee (f := 21) rfl ?_); refine goesL_ (some 14) rfl rfl Try.func21 (by kernel_rfl) rfl #[.agg #[.int .u64 0, .int .u64 0, .int .u64 0, .int .u64 99]] rfl (by (try simp only [List.map_toArray, List.map_cons, List.map_nil]); first | done | rfl | (simp only [List.length_drop, List.length_take]; rfl)) ?_; (with_reducible refine (limb_Sqrt.calls k 0 0 0 99 t133 t134 _ A2.out).mono ?_); rintro e w12 ⟨rfl, hb⟩; refine ⟨_, rfl, ?_⟩; have n0_ := Aside0.mk (bB (g := gb131) (o := .cells #[.int .u64 t124, .int .u64 t125, .int .u64 t126, .int .u64 t127] 26 (0, 0)) (by (with_reducible repeat (first | refine bN ?_ _ | refine bD ?_ | refine bL ?_ _)); refine bX ?_ NB131_132.out _; (with_reducible repeat (first | refine bN ?_ _ | refine bD ?_ | refine bL ?_ _)); refine bX ?_ NB131_132.out _; (with_reducible repeat (first | refine bN ?_ _ | refine bD ?_ | refine bL ?_ _)); refine blk_put (cs := #[.int .u64 t124, .int .u64 t125, .int .u64 t126, .int .u64 0]) ?_ 3 _ rfl; (with_reducible repeat (first | refine bN ?_ _ | refine bD ?_ | refine bL ?_ _)); refine blk_put (cs := #[.int .u64 t124, .int .u64 t125, .int .u64 0, .int .u64 0]) ?_ 2 _ rfl; (with_reducible repeat (first | refine bN ?_ _ | refine bD ?_ | refine bL ?_ _)); refine blk_put (cs := #[.int .u64 t124, .int .u64 0, .int .u64 0, .int .u64 0]) ?_ 1 _ rfl; (with_reducible repeat (first | refine bN ?_ _ | refine bD ?_ | refine bL ?_ _)); refine blk_put (cs := #[.int .u64 0, .int .u64 0, .int .u64 0, .int .u64 0]) ?_ 0 _ rfl; (with_reducible repeat (first | refine bN ?_ _ | refine bD ?_ | refine bL ?_ _)); exact BK131.out) hb); have n1_ := Aside0.mk (bB (g := gb132) (o := .cells #[.int .u64 t128, .int .u64 t129] 24 (0, 0)) (by (with_reducible repeat (first | refine bN ?_ _ | refine bD ?_ | refine bL ?_ _)); refine blk_put (cs := #[.int .u64 t128, .int .u64 0]) ?_ 1 _ rfl; (with_reducible repeat (first | refine bN ?_ _ | refine bD ?_ | refine bL ?_ _)); refine blk_put (cs := #[.int .u64 0, .int .u64 0]) ?_ 0 _ rfl; (with_reducible repeat (first | refine bN ?_ _ | refine bD ?_ | refine bL ?_ _)); refine bX ?_ NB132_131.out _; (with_reducible repeat (first | refine bN ?_ _ | refine bD ?_ | refine bL ?_ _)); refine bX ?_ NB132_131.out _; (with_reducible repeat (first | refine bN ?_ _ | refine bD ?_ | refine bL ?_ _)); refine bX ?_ NB132_131.out _; (with_reducible repeat (first | refine bN ?_ _ | refine bD ?_ | refine bL ?_ _)); refine bX ?_ NB132_131.out _; (with_reducible repeat (first | refine bN ?_ _ | refine bD ?_ | refine bL ?_ _)); exact BK132.out) hb); have n2_ := Aside0.mk (below_step (by repeat (first | (with_reducible first | exact HB.out | apply below_alloc | apply pN | apply dI | refine below_set ?_ GE131.out | refine below_set ?_ GE132.out) | exact HB.out)) hb); clear BK131; clear BK132; clear HB; have BK131 := n0_; have BK132 := n1_; have HB := n2_; clear n0_ n1_ n2_; (try clear hb); (try clear hb2); (try clear hk); (try clear hi); have hcz13_0 : w12.cell? ⟨gb131, 0, none⟩ = some (.int .u64 t124) := (bC BK131.out 0).trans rfl; have hcz13_1 : w12.cell? ⟨gb131, 1, none⟩ = some (.int .u64 t125) := (bC BK131.out 1).trans rfl; have hcz13_2 : w12.cell? ⟨gb131, 2, none⟩ = some (.int .u64 t126) := (bC BK131.out 2).trans rfl; have hcz13_3 : w12.cell? ⟨gb131, 3, none⟩ = some (.int .u64 t127) := (bC BK131.out 3).trans rfl; have hfz13_0 := bF BK131.out 0; have hfz13_1 := bF BK131.out 1; have hfz13_2 := bF BK131.out 2; have hfz13_3 := bF BK131.out 3; have hcz14_0 : w12.cell? ⟨gb132, 0, none⟩ = some (.int .u64 t128) := (bC BK132.out 0).trans rfl; have hcz14_1 : w12.cell? ⟨gb132, 1, none⟩ = some (.int .u64 t129) := (bC BK132.out 1).trans rfl; have hfz14_0 := bF BK132.out 0; have hfz14_1 := bF BK132.out 1))
    go_ret
    exact ⟨by first | rfl | (simp [errW_none, errW_some] <;> rfl) | (simp [*, errW_none, errW_some] <;> rfl), by repeat (first | (with_reducible first | exact HB.out | apply below_alloc | apply pN | apply dI | refine below_set ?_ GE131.out | refine below_set ?_ GE132.out) | exact HB.out)⟩
   ·rw [if_neg c5] at H
    have c5b0 : (t127 == 3) = false := beq_eq_false_iff_ne.mpr c5
    have c5b1 : (t127 != 3) = true := bne_iff_ne.mpr c5
    obtain rfl := Option.some.inj H
    go_enter Try.func16, Try.ntmps16
    go_wp2_with (first | ((with_reducible refine gate_callee (f := 12) rfl ?_); refine goesL_ (some 8) rfl rfl Try.func12 (by kernel_rfl) rfl #[.agg #[.int .u64 0, .int .u64 0, .int .u64 0, .int .u64 17], .agg #[.int .u64 0, .int .u64 5]] rfl (by (try simp only [List.map_toArray, List.map_cons, List.map_nil]); first | done | rfl | (simp only [List.length_drop, List.length_take]; rfl)) ?_; (with_reducible refine (limb_Div.calls 0 0 0 17 0 5 t124 t125 t126 t127 t128 t129 true _ A1.out).mono ?_); rintro e w15 ⟨rfl, hb⟩; refine ⟨_, rfl, ?_⟩; have n0_ := Aside0.mk (below_step (by repeat (first | (with_reducible first | exact HB.out | apply below_alloc | apply pN | apply dI) | exact HB.out)) hb); clear HB; have HB := n0_; clear n0_; (try clear hb); (try clear hb2); (try clear hk); (try clear hi)) | ((with_reducible refine gate_dst (N := 1) rfl ?_); refine box_event ?hg (N := 1) ?hd (cs := #[.int .u64 0, .int .u64 0, .int .u64 0, .int .u64 0]) (t := 26) ?hr ?_; (case hd => rfl); (case hg => rfl); (case hr => first | (go_simp; done) | (go_simp; rfl)); intro gb131 hg w16 hbox hb; have n0_ := Aside0.mk (below_step (by repeat (first | (with_reducible first | exact HB.out | apply below_alloc | apply pN | apply dI) | exact HB.out)) hb); have n1_ := Aside0.mk (hbox); have n2_ := Aside0.mk ((by rw [hg]; exact (below_size (by repeat (first | (with_reducible first | exact HB.out | apply below_alloc | apply pN | apply dI) | exact HB.out))) : w.heap.size ≤ gb131)); have n3_ := Aside0.mk ((by rw [hg]; exact (below_size (by repeat (first | (with_reducible first | exact HB.out | apply below_alloc | apply pN | apply dI) | exact HB.out))) : w.heap.size ≤ gb131)); clear HB; have HB := n0_; have BK131 := n1_; have GW131 := n2_; have GE131 := n3_; clear n0_ n1_ n2_ n3_; clear hb hbox hg) | ((with_reducible refine gate_dst (N := 2) rfl ?_); refine box_event ?hg (N := 2) ?hd (cs := #[.int .u64 0, .int .u64 0]) (t := 24) ?hr ?_; (case hd => rfl); (case hg => rfl); (case hr => first | (go_simp; done) | (go_simp; rfl)); intro gb132 hg w17 hbox hb; have n0_ := Aside0.mk (bB (g := gb131) (o := .cells #[.int .u64 0, .int .u64 0, .int .u64 0, .int .u64 0] 26 (0, 0)) (by (with_reducible repeat (first | refine bN ?_ _ | refine bD ?_ | refine bL ?_ _)); exact BK131.out) hb); have n1_ := Aside0.mk (below_step (by repeat (first | (with_reducible first | exact HB.out | apply below_alloc | apply pN | apply dI | refine below_set ?_ GE131.out) | exact HB.out)) hb); have n2_ := Aside0.mk (hbox); have n3_ := Aside0.mk ((by rw [hg]; exact (below_size (by repeat (first | (with_reducible first | exact HB.out | apply below_alloc | apply pN | apply dI | refine below_set ?_ GE131.out) | exact HB.out))) : w.heap.size ≤ gb132)); have n4_ := Aside0.mk ((by rw [hg]; exact (below_size (by repeat (first | (with_reducible first | exact HB.out | apply below_alloc | apply pN | apply dI | refine below_set ?_ GE131.out) | exact HB.out))) : w.heap.size ≤ gb132)); have n5_ := Aside0.mk ((by rw [hg]; exact Nat.ne_of_lt (blk_lt (g := gb131) (o := .cells #[.int .u64 0, .int .u64 0, .int .u64 0, .int .u64 0] 26 (0, 0)) (by (with_reducible repeat (first | refine bN ?_ _ | refine bD ?_ | refine bL ?_ _)); exact BK131.out)) : gb131 ≠ gb132)); have n6_ := Aside0.mk ((by rw [hg]; exact Nat.ne_of_gt (blk_lt (g := gb131) (o := .cells #[.int .u64 0, .int .u64 0, .int .u64 0, .int .u64 0] 26 (0, 0)) (by (with_reducible repeat (first | refine bN ?_ _ | refine bD ?_ | refine bL ?_ _)); exact BK131.out)) : gb132 ≠ gb131)); clear BK131; clear HB; have BK131 := n0_; have HB := n1_; have BK132 := n2_; have GW132 := n3_; have GE132 := n4_; have NB131_132 := n5_; have NB132_131 := n6_; clear n0_ n1_ n2_ n3_ n4_ n5_ n6_; clear hb hbox hg; have hnb18 := NB131_132.out; have hnc18 := NB132_131.out; have hcz19_0 : w17.cell? ⟨gb131, 0, none⟩ = some (.int .u64 0) := (bC BK131.out 0).trans rfl; have hcz19_1 : w17.cell? ⟨gb131, 1, none⟩ = some (.int .u64 0) := (bC BK131.out 1).trans rfl; have hcz19_2 : w17.cell? ⟨gb131, 2, none⟩ = some (.int .u64 0) := (bC BK131.out 2).trans rfl; have hcz19_3 : w17.cell? ⟨gb131, 3, none⟩ = some (.int .u64 0) := (bC BK131.out 3).trans rfl; have hfz19_0 := bF BK131.out 0; have hfz19_1 := bF BK131.out 1; have hfz19_2 := bF BK131.out 2; have hfz19_3 := bF BK131.out 3; have hcz20_0 : w17.cell? ⟨gb132, 0, none⟩ = some (.int .u64 0) := (bC BK132.out 0).trans rfl; have hcz20_1 : w17.cell? ⟨gb132, 1, none⟩ = some (.int .u64 0) := (bC BK132.out 1).trans rfl; have hfz20_0 := bF BK132.out 0; have hfz20_1 := bF BK132.out 1) | ((with_reducible refine gate_callee (f := 21) rfl ?_); refine goesL_ (some 14) rfl rfl Try.func21 (by kernel_rfl) rfl #[.agg #[.int .u64 0, .int .u64 0, .int .u64 0, .int .u64 99]] rfl (by (try simp only [List.map_toArray, List.map_cons, List.map_nil]); first | done | rfl | (simp only [List.length_drop, List.length_take]; rfl)) ?_; (with_reducible refine (limb_Sqrt.calls k 0 0 0 99 t133 t134 _ A2.out).mono ?_); rintro e w21 ⟨rfl, hb⟩; refine ⟨_, rfl, ?_⟩; have n0_ := Aside0.mk (bB (g := gb131) (o := .cells #[.int .u64 t124, .int .u64 t125, .int .u64 t126, .int .u64 t127] 26 (0, 0)) (by (with_reducible repeat (first | refine bN ?_ _ | refine bD ?_ | refine bL ?_ _)); refine bX ?_ NB131_132.out _; (with_reducible repeat (first | refine bN ?_ _ | refine bD ?_ | refine bL ?_ _)); refine bX ?_ NB131_132.out _; (with_reducible repeat (first | refine bN ?_ _ | refine bD ?_ | refine bL ?_ _)); refine blk_put (cs := #[.int .u64 t124, .int .u64 t125, .int .u64 t126, .int .u64 0]) ?_ 3 _ rfl; (with_reducible repeat (first | refine bN ?_ _ | refine bD ?_ | refine bL ?_ _)); refine blk_put (cs := #[.int .u64 t124, .int .u64 t125, .int .u64 0, .int .u64 0]) ?_ 2 _ rfl; (with_reducible repeat (first | refine bN ?_ _ | refine bD ?_ | refine bL ?_ _)); refine blk_put (cs := #[.int .u64 t124, .int .u64 0, .int .u64 0, .int .u64 0]) ?_ 1 _ rfl; (with_reducible repeat (first | refine bN ?_ _ | refine bD ?_ | refine bL ?_ _)); refine blk_put (cs := #[.int .u64 0, .int .u64 0, .int .u64 0, .int .u64 0]) ?_ 0 _ rfl; (with_reducible repeat (first | refine bN ?_ _ | refine bD ?_ | refine bL ?_ _)); exact BK131.out) hb); have n1_ := Aside0.mk (bB (g := gb132) (o := .cells #[.int .u64 t128, .int .u64 t129] 24 (0, 0)) (by (with_reducible repeat (first | refine bN ?_ _ | refine bD ?_ | refine bL ?_ _)); refine blk_put (cs := #[.int .u64 t128, .int .u64 0]) ?_ 1 _ rfl; (with_reducible repeat (first | refine bN ?_ _ | refine bD ?_ | refine bL ?_ _)); refine blk_put (cs := #[.int .u64 0, .int .u64 0]) ?_ 0 _ rfl; (with_reducible repeat (first | refine bN ?_ _ | refine bD ?_ | refine bL ?_ _)); refine bX ?_ NB132_131.out _; (with_reducible repeat (first | refine bN ?_ _ | refine bD ?_ | refine bL ?_ _)); refine bX ?_ NB132_131.out _; (with_reducible repeat (first | refine bN ?_ _ | refine bD ?_ | refine bL ?_ _)); refine bX ?_ NB132_131.out _; (with_reducible repeat (first | refine bN ?_ _ | refine bD ?_ | refine bL ?_ _)); refine bX ?_ NB132_131.out _; (with_reducible repeat (first | refine bN ?_ _ | refine bD ?_ | refine bL ?_ _)); exact BK132.out) hb); have n2_ := Aside0.mk (below_step (by repeat (first | (with_reducible first | exact HB.out | apply below_alloc | apply pN | apply dI | refine below_set ?_ GE131.out | refine below_set ?_ GE132.out) | exact HB.out)) hb); clear BK131; clear BK132; clear HB; have BK131 := n0_; have BK132 := n1_; have HB := n2_; clear n0_ n1_ n2_; (try clear hb); (try clear hb2); (try clear hk); (try clear hi); have hcz22_0 : w21.cell? ⟨gb131, 0, none⟩ = some (.int .u64 t124) := (bC BK131.out 0).trans rfl; have hcz22_1 : w21.cell? ⟨gb131, 1, none⟩ = some (.int .u64 t125) := (bC BK131.out 1).trans rfl; have hcz22_2 : w21.cell? ⟨gb131, 2, none⟩ = some (.int .u64 t126) := (bC BK131.out 2).trans rfl; have hcz22_3 : w21.cell? ⟨gb131, 3, none⟩ = some (.int .u64 t127) := (bC BK131.out 3).trans rfl; have hfz22_0 := bF BK131.out 0; have hfz22_1 := bF BK131.out 1; have hfz22_2 := bF BK131.out 2; have hfz22_3 := bF BK131.out 3))
    go_ret
    exact ⟨by first | rfl | (simp [errW_none, errW_some] <;> rfl) | (simp [*, errW_none, errW_some] <;> rfl), by repeat (first | (with_reducible first | exact HB.out | apply below_alloc | apply pN | apply dI | refine below_set ?_ GE131.out | refine below_set ?_ GE132.out) | exact HB.out)⟩
  ·replace c4 := Bool.eq_false_iff.mpr c4
   subst c4
   have H1 : (some false) = some r := by rw [if_neg (show ¬ (false = true) by decide)] at H; exact H
   clear H
   have H := H1
   clear H1
   obtain rfl := Option.some.inj H
   go_enter Try.func16, Try.ntmps16
   go_wp2_with (first | ((with_reducible refine gate_callee (f := 12) rfl ?_); refine goesL_ (some 8) rfl rfl Try.func12 (by kernel_rfl) rfl #[.agg #[.int .u64 0, .int .u64 0, .int .u64 0, .int .u64 17], .agg #[.int .u64 0, .int .u64 5]] rfl (by (try simp only [List.map_toArray, List.map_cons, List.map_nil]); first | done | rfl | (simp only [List.length_drop, List.length_take]; rfl)) ?_; (with_reducible refine (limb_Div.calls 0 0 0 17 0 5 t124 t125 t126 t127 t128 t129 false _ A1.out).mono ?_); rintro e w23 ⟨rfl, hb⟩; refine ⟨_, rfl, ?_⟩; have n0_ := Aside0.mk (below_step (by repeat (first | (with_reducible first | exact HB.out | apply below_alloc | apply pN | apply dI) | exact HB.out)) hb); clear HB; have HB := n0_; clear n0_; (try clear hb); (try clear hb2); (try clear hk); (try clear hi)) | ((with_reducible refine gate_dst (N := 1) rfl ?_); refine box_event ?hg (N := 1) ?hd (cs := #[.int .u64 0, .int .u64 0, .int .u64 0, .int .u64 0]) (t := 26) ?hr ?_; (case hd => rfl); (case hg => rfl); (case hr => first | (go_simp; done) | (go_simp; rfl)); intro gb131 hg w24 hbox hb; have n0_ := Aside0.mk (below_step (by repeat (first | (with_reducible first | exact HB.out | apply below_alloc | apply pN | apply dI) | exact HB.out)) hb); have n1_ := Aside0.mk (hbox); have n2_ := Aside0.mk ((by rw [hg]; exact (below_size (by repeat (first | (with_reducible first | exact HB.out | apply below_alloc | apply pN | apply dI) | exact HB.out))) : w.heap.size ≤ gb131)); have n3_ := Aside0.mk ((by rw [hg]; exact (below_size (by repeat (first | (with_reducible first | exact HB.out | apply below_alloc | apply pN | apply dI) | exact HB.out))) : w.heap.size ≤ gb131)); clear HB; have HB := n0_; have BK131 := n1_; have GW131 := n2_; have GE131 := n3_; clear n0_ n1_ n2_ n3_; clear hb hbox hg) | ((with_reducible refine gate_dst (N := 2) rfl ?_); refine box_event ?hg (N := 2) ?hd (cs := #[.int .u64 0, .int .u64 0]) (t := 24) ?hr ?_; (case hd => rfl); (case hg => rfl); (case hr => first | (go_simp; done) | (go_simp; rfl)); intro gb132 hg w25 hbox hb; have n0_ := Aside0.mk (bB (g := gb131) (o := .cells #[.int .u64 0, .int .u64 0, .int .u64 0, .int .u64 0] 26 (0, 0)) (by (with_reducible repeat (first | refine bN ?_ _ | refine bD ?_ | refine bL ?_ _)); exact BK131.out) hb); have n1_ := Aside0.mk (below_step (by repeat (first | (with_reducible first | exact HB.out | apply below_alloc | apply pN | apply dI | refine below_set ?_ GE131.out) | exact HB.out)) hb); have n2_ := Aside0.mk (hbox); have n3_ := Aside0.mk ((by rw [hg]; exact (below_size (by repeat (first | (with_reducible first | exact HB.out | apply below_alloc | apply pN | apply dI | refine below_set ?_ GE131.out) | exact HB.out))) : w.heap.size ≤ gb132)); have n4_ := Aside0.mk ((by rw [hg]; exact (below_size (by repeat (first | (with_reducible first | exact HB.out | apply below_alloc | apply pN | apply dI | refine below_set ?_ GE131.out) | exact HB.out))) : w.heap.size ≤ gb132)); have n5_ := Aside0.mk ((by rw [hg]; exact Nat.ne_of_lt (blk_lt (g := gb131) (o := .cells #[.int .u64 0, .int .u64 0, .int .u64 0, .int .u64 0] 26 (0, 0)) (by (with_reducible repeat (first | refine bN ?_ _ | refine bD ?_ | refine bL ?_ _)); exact BK131.out)) : gb131 ≠ gb132)); have n6_ := Aside0.mk ((by rw [hg]; exact Nat.ne_of_gt (blk_lt (g := gb131) (o := .cells #[.int .u64 0, .int .u64 0, .int .u64 0, .int .u64 0] 26 (0, 0)) (by (with_reducible repeat (first | refine bN ?_ _ | refine bD ?_ | refine bL ?_ _)); exact BK131.out)) : gb132 ≠ gb131)); clear BK131; clear HB; have BK131 := n0_; have HB := n1_; have BK132 := n2_; have GW132 := n3_; have GE132 := n4_; have NB131_132 := n5_; have NB132_131 := n6_; clear n0_ n1_ n2_ n3_ n4_ n5_ n6_; clear hb hbox hg; have hnb26 := NB131_132.out; have hnc26 := NB132_131.out; have hcz27_0 : w25.cell? ⟨gb131, 0, none⟩ = some (.int .u64 0) := (bC BK131.out 0).trans rfl; have hcz27_1 : w25.cell? ⟨gb131, 1, none⟩ = some (.int .u64 0) := (bC BK131.out 1).trans rfl; have hcz27_2 : w25.cell? ⟨gb131, 2, none⟩ = some (.int .u64 0) := (bC BK131.out 2).trans rfl; have hcz27_3 : w25.cell? ⟨gb131, 3, none⟩ = some (.int .u64 0) := (bC BK131.out 3).trans rfl; have hfz27_0 := bF BK131.out 0; have hfz27_1 := bF BK131.out 1; have hfz27_2 := bF BK131.out 2; have hfz27_3 := bF BK131.out 3; have hcz28_0 : w25.cell? ⟨gb132, 0, none⟩ = some (.int .u64 0) := (bC BK132.out 0).trans rfl; have hcz28_1 : w25.cell? ⟨gb132, 1, none⟩ = some (.int .u64 0) := (bC BK132.out 1).trans rfl; have hfz28_0 := bF BK132.out 0; have hfz28_1 := bF BK132.out 1) | ((with_reducible refine gate_callee (f := 21) rfl ?_); refine goesL_ (some 14) rfl rfl Try.func21 (by kernel_rfl) rfl #[.agg #[.int .u64 0, .int .u64 0, .int .u64 0, .int .u64 99]] rfl (by (try simp only [List.map_toArray, List.map_cons, List.map_nil]); first | done | rfl | (simp only [List.length_drop, List.length_take]; rfl)) ?_; (with_reducible refine (limb_Sqrt.calls k 0 0 0 99 t133 t134 _ A2.out).mono ?_); rintro e w29 ⟨rfl, hb⟩; refine ⟨_, rfl, ?_⟩; have n0_ := Aside0.mk (bB (g := gb131) (o := .cells #[.int .u64 t124, .int .u64 t125, .int .u64 t126, .int .u64 t127] 26 (0, 0)) (by (with_reducible repeat (first | refine bN ?_ _ | refine bD ?_ | refine bL ?_ _)); refine bX ?_ NB131_132.out _; (with_reducible repeat (first | refine bN ?_ _ | refine bD ?_ | refine bL ?_ _)); refine bX ?_ NB131_132.out _; (with_reducible repeat (first | refine bN ?_ _ | refine bD ?_ | refine bL ?_ _)); refine blk_put (cs := #[.int .u64 t124, .int .u64 t125, .int .u64 t126, .int .u64 0]) ?_ 3 _ rfl; (with_reducible repeat (first | refine bN ?_ _ | refine bD ?_ | refine bL ?_ _)); refine blk_put (cs := #[.int .u64 t124, .int .u64 t125, .int .u64 0, .int .u64 0]) ?_ 2 _ rfl; (with_reducible repeat (first | refine bN ?_ _ | refine bD ?_ | refine bL ?_ _)); refine blk_put (cs := #[.int .u64 t124, .int .u64 0, .int .u64 0, .int .u64 0]) ?_ 1 _ rfl; (with_reducible repeat (first | refine bN ?_ _ | refine bD ?_ | refine bL ?_ _)); refine blk_put (cs := #[.int .u64 0, .int .u64 0, .int .u64 0, .int .u64 0]) ?_ 0 _ rfl; (with_reducible repeat (first | refine bN ?_ _ | refine bD ?_ | refine bL ?_ _)); exact BK131.out) hb); have n1_ := Aside0.mk (bB (g := gb132) (o := .cells #[.int .u64 t128, .int .u64 t129] 24 (0, 0)) (by (with_reducible repeat (first | refine bN ?_ _ | refine bD ?_ | refine bL ?_ _)); refine blk_put (cs := #[.int .u64 t128, .int .u64 0]) ?_ 1 _ rfl; (with_reducible repeat (first | refine bN ?_ _ | refine bD ?_ | refine bL ?_ _)); refine blk_put (cs := #[.int .u64 0, .int .u64 0]) ?_ 0 _ rfl; (with_reducible repeat (first | refine bN ?_ _ | refine bD ?_ | refine bL ?_ _)); refine bX ?_ NB132_131.out _; (with_reducible repeat (first | refine bN ?_ _ | refine bD ?_ | refine bL ?_ _)); refine bX ?_ NB132_131.out _; (with_reducible repeat (first | refine bN ?_ _ | refine bD ?_ | refine bL ?_ _)); refine bX ?_ NB132_131.out _; (with_reducible repeat (first | refine bN ?_ _ | refine bD ?_ | refine bL ?_ _)); refine bX ?_ NB132_131.out _; (with_reducible repeat (first | refine bN ?_ _ | refine bD ?_ | refine bL ?_ _)); exact BK132.out) hb); have n2_ := Aside0.mk (below_step (by repeat (first | (with_reducible first | exact HB.out | apply below_alloc | apply pN | apply dI | refine below_set ?_ GE131.out | refine below_set ?_ GE132.out) | exact HB.out)) hb); clear BK131; clear BK132; clear HB; have BK131 := n0_; have BK132 := n1_; have HB := n2_; clear n0_ n1_ n2_; (try clear hb); (try clear hb2); (try clear hk); (try clear hi)))
   go_ret
   exact ⟨by first | rfl | (simp [errW_none, errW_some] <;> rfl) | (simp [*, errW_none, errW_some] <;> rfl), by repeat (first | (with_reducible first | exact HB.out | apply below_alloc | apply pN | apply dI | refine below_set ?_ GE131.out | refine below_set ?_ GE132.out) | exact HB.out)⟩
 ·rw [if_neg c3] at H
  have c3b0 : (t133 == 0 && (t134 == 9)) = false := by simpa using c3
  (try (have c3b1 : decide (t133 = 0 && (t134 == 9)) = false := by simpa using c3))
  (try (have c3b2 : (t133 == 0 && (t134 == 9)) = false := by simpa using c3))
  (try (have c3b3 : ¬ (t133 = 0 && (t134 == 9)) := by simpa using c3))
  clear c3
  obtain rfl := Option.some.inj H
  go_enter Try.func16, Try.ntmps16
  go_wp2_with (first | ((with_reducible refine gate_callee (f := 12) rfl ?_); refine goesL_ (some 8) rfl rfl Try.func12 (by kernel_rfl) rfl #[.agg #[.int .u64 0, .int .u64 0, .int .u64 0, .int .u64 17], .agg #[.int .u64 0, .int .u64 5]] rfl (by (try simp only [List.map_toArray, List.map_cons, List.map_nil]); first | done | rfl | (simp only [List.length_drop, List.length_take]; rfl)) ?_; (with_reducible refine (limb_Div.calls 0 0 0 17 0 5 t124 t125 t126 t127 t128 t129 t130 _ A1.out).mono ?_); rintro e w30 ⟨rfl, hb⟩; refine ⟨_, rfl, ?_⟩; have n0_ := Aside0.mk (below_step (by repeat (first | (with_reducible first | exact HB.out | apply below_alloc | apply pN | apply dI) | exact HB.out)) hb); clear HB; have HB := n0_; clear n0_; (try clear hb); (try clear hb2); (try clear hk); (try clear hi)) | ((with_reducible refine gate_dst (N := 1) rfl ?_); refine box_event ?hg (N := 1) ?hd (cs := #[.int .u64 0, .int .u64 0, .int .u64 0, .int .u64 0]) (t := 26) ?hr ?_; (case hd => rfl); (case hg => rfl); (case hr => first | (go_simp; done) | (go_simp; rfl)); intro gb131 hg w31 hbox hb; have n0_ := Aside0.mk (below_step (by repeat (first | (with_reducible first | exact HB.out | apply below_alloc | apply pN | apply dI) | exact HB.out)) hb); have n1_ := Aside0.mk (hbox); have n2_ := Aside0.mk ((by rw [hg]; exact (below_size (by repeat (first | (with_reducible first | exact HB.out | apply below_alloc | apply pN | apply dI) | exact HB.out))) : w.heap.size ≤ gb131)); have n3_ := Aside0.mk ((by rw [hg]; exact (below_size (by repeat (first | (with_reducible first | exact HB.out | apply below_alloc | apply pN | apply dI) | exact HB.out))) : w.heap.size ≤ gb131)); clear HB; have HB := n0_; have BK131 := n1_; have GW131 := n2_; have GE131 := n3_; clear n0_ n1_ n2_ n3_; clear hb hbox hg) | ((with_reducible refine gate_dst (N := 2) rfl ?_); refine box_event ?hg (N := 2) ?hd (cs := #[.int .u64 0, .int .u64 0]) (t := 24) ?hr ?_; (case hd => rfl); (case hg => rfl); (case hr => first | (go_simp; done) | (go_simp; rfl)); intro gb132 hg w32 hbox hb; have n0_ := Aside0.mk (bB (g := gb131) (o := .cells #[.int .u64 0, .int .u64 0, .int .u64 0, .int .u64 0] 26 (0, 0)) (by (with_reducible repeat (first | refine bN ?_ _ | refine bD ?_ | refine bL ?_ _)); exact BK131.out) hb); have n1_ := Aside0.mk (below_step (by repeat (first | (with_reducible first | exact HB.out | apply below_alloc | apply pN | apply dI | refine below_set ?_ GE131.out) | exact HB.out)) hb); have n2_ := Aside0.mk (hbox); have n3_ := Aside0.mk ((by rw [hg]; exact (below_size (by repeat (first | (with_reducible first | exact HB.out | apply below_alloc | apply pN | apply dI | refine below_set ?_ GE131.out) | exact HB.out))) : w.heap.size ≤ gb132)); have n4_ := Aside0.mk ((by rw [hg]; exact (below_size (by repeat (first | (with_reducible first | exact HB.out | apply below_alloc | apply pN | apply dI | refine below_set ?_ GE131.out) | exact HB.out))) : w.heap.size ≤ gb132)); have n5_ := Aside0.mk ((by rw [hg]; exact Nat.ne_of_lt (blk_lt (g := gb131) (o := .cells #[.int .u64 0, .int .u64 0, .int .u64 0, .int .u64 0] 26 (0, 0)) (by (with_reducible repeat (first | refine bN ?_ _ | refine bD ?_ | refine bL ?_ _)); exact BK131.out)) : gb131 ≠ gb132)); have n6_ := Aside0.mk ((by rw [hg]; exact Nat.ne_of_gt (blk_lt (g := gb131) (o := .cells #[.int .u64 0, .int .u64 0, .int .u64 0, .int .u64 0] 26 (0, 0)) (by (with_reducible repeat (first | refine bN ?_ _ | refine bD ?_ | refine bL ?_ _)); exact BK131.out)) : gb132 ≠ gb131)); clear BK131; clear HB; have BK131 := n0_; have HB := n1_; have BK132 := n2_; have GW132 := n3_; have GE132 := n4_; have NB131_132 := n5_; have NB132_131 := n6_; clear n0_ n1_ n2_ n3_ n4_ n5_ n6_; clear hb hbox hg; have hnb33 := NB131_132.out; have hnc33 := NB132_131.out; have hcz34_0 : w32.cell? ⟨gb131, 0, none⟩ = some (.int .u64 0) := (bC BK131.out 0).trans rfl; have hcz34_1 : w32.cell? ⟨gb131, 1, none⟩ = some (.int .u64 0) := (bC BK131.out 1).trans rfl; have hcz34_2 : w32.cell? ⟨gb131, 2, none⟩ = some (.int .u64 0) := (bC BK131.out 2).trans rfl; have hcz34_3 : w32.cell? ⟨gb131, 3, none⟩ = some (.int .u64 0) := (bC BK131.out 3).trans rfl; have hfz34_0 := bF BK131.out 0; have hfz34_1 := bF BK131.out 1; have hfz34_2 := bF BK131.out 2; have hfz34_3 := bF BK131.out 3; have hcz35_0 : w32.cell? ⟨gb132, 0, none⟩ = some (.int .u64 0) := (bC BK132.out 0).trans rfl; have hcz35_1 : w32.cell? ⟨gb132, 1, none⟩ = some (.int .u64 0) := (bC BK132.out 1).trans rfl; have hfz35_0 := bF BK132.out 0; have hfz35_1 := bF BK132.out 1) | ((with_reducible refine gate_callee (f := 21) rfl ?_); refine goesL_ (some 14) rfl rfl Try.func21 (by kernel_rfl) rfl #[.agg #[.int .u64 0, .int .u64 0, .int .u64 0, .int .u64 99]] rfl (by (try simp only [List.map_toArray, List.map_cons, List.map_nil]); first | done | rfl | (simp only [List.length_drop, List.length_take]; rfl)) ?_; (with_reducible refine (limb_Sqrt.calls k 0 0 0 99 t133 t134 _ A2.out).mono ?_); rintro e w36 ⟨rfl, hb⟩; refine ⟨_, rfl, ?_⟩; have n0_ := Aside0.mk (bB (g := gb131) (o := .cells #[.int .u64 t124, .int .u64 t125, .int .u64 t126, .int .u64 t127] 26 (0, 0)) (by (with_reducible repeat (first | refine bN ?_ _ | refine bD ?_ | refine bL ?_ _)); refine bX ?_ NB131_132.out _; (with_reducible repeat (first | refine bN ?_ _ | refine bD ?_ | refine bL ?_ _)); refine bX ?_ NB131_132.out _; (with_reducible repeat (first | refine bN ?_ _ | refine bD ?_ | refine bL ?_ _)); refine blk_put (cs := #[.int .u64 t124, .int .u64 t125, .int .u64 t126, .int .u64 0]) ?_ 3 _ rfl; (with_reducible repeat (first | refine bN ?_ _ | refine bD ?_ | refine bL ?_ _)); refine blk_put (cs := #[.int .u64 t124, .int .u64 t125, .int .u64 0, .int .u64 0]) ?_ 2 _ rfl; (with_reducible repeat (first | refine bN ?_ _ | refine bD ?_ | refine bL ?_ _)); refine blk_put (cs := #[.int .u64 t124, .int .u64 0, .int .u64 0, .int .u64 0]) ?_ 1 _ rfl; (with_reducible repeat (first | refine bN ?_ _ | refine bD ?_ | refine bL ?_ _)); refine blk_put (cs := #[.int .u64 0, .int .u64 0, .int .u64 0, .int .u64 0]) ?_ 0 _ rfl; (with_reducible repeat (first | refine bN ?_ _ | refine bD ?_ | refine bL ?_ _)); exact BK131.out) hb); have n1_ := Aside0.mk (bB (g := gb132) (o := .cells #[.int .u64 t128, .int .u64 t129] 24 (0, 0)) (by (with_reducible repeat (first | refine bN ?_ _ | refine bD ?_ | refine bL ?_ _)); refine blk_put (cs := #[.int .u64 t128, .int .u64 0]) ?_ 1 _ rfl; (with_reducible repeat (first | refine bN ?_ _ | refine bD ?_ | refine bL ?_ _)); refine blk_put (cs := #[.int .u64 0, .int .u64 0]) ?_ 0 _ rfl; (with_reducible repeat (first | refine bN ?_ _ | refine bD ?_ | refine bL ?_ _)); refine bX ?_ NB132_131.out _; (with_reducible repeat (first | refine bN ?_ _ | refine bD ?_ | refine bL ?_ _)); refine bX ?_ NB132_131.out _; (with_reducible repeat (first | refine bN ?_ _ | refine bD ?_ | refine bL ?_ _)); refine bX ?_ NB132_131.out _; (with_reducible repeat (first | refine bN ?_ _ | refine bD ?_ | refine bL ?_ _)); refine bX ?_ NB132_131.out _; (with_reducible repeat (first | refine bN ?_ _ | refine bD ?_ | refine bL ?_ _)); exact BK132.out) hb); have n2_ := Aside0.mk (below_step (by repeat (first | (with_reducible first | exact HB.out | apply below_alloc | apply pN | apply dI | refine below_set ?_ GE131.out | refine below_set ?_ GE132.out) | exact HB.out)) hb); clear BK131; clear BK132; clear HB; have BK131 := n0_; have BK132 := n1_; have HB := n2_; clear n0_ n1_ n2_; (try clear hb); (try clear hb2); (try clear hk); (try clear hi)))
  go_ret
  exact ⟨by first | rfl | (simp [errW_none, errW_some] <;> rfl) | (simp [*, errW_none, errW_some] <;> rfl), by repeat (first | (with_reducible first | exact HB.out | apply below_alloc | apply pN | apply dI | refine below_set ?_ GE131.out | refine below_set ?_ GE132.out) | exact HB.out)⟩

/-! ### limb_Shl: function 23 -/


end Go.Proofs.Ytlpdongckcaclaa.S
