/- Functions of the translation as plain Lean functions, and their walks: written by a program of this session's on the kit's print, for this seat. -/
import Derived.Test.YtlpdongckcaclaaSx0
import Derived.Test.YtlpdongckcaclaaSx1
import Derived.Test.YtlpdongckcaclaaSx2
import Derived.Test.YtlpdongckcaclaaSx3
import Derived.Test.YtlpdongckcaclaaSx4
import Derived.Test.YtlpdongckcaclaaSx6
import Derived.Test.YtlpdongckcaclaaSx7
import Derived.Test.YtlpdongckcaclaaSx8
import Derived.Test.YtlpdongckcaclaaSx9
import Derived.Test.YtlpdongckcaclaaSx10
namespace Go.Proofs.Ytlpdongckcaclaa.S
open Go.RowKit Go.Proofs.Ytlpdongckcaclaa.Limb Go.Proofs.Ytlpdongckcaclaa.Plain Go.Proofs.YtlpdongckcaclaaW.PrintWords Go.Proofs.YtlpdongckcaclaaW.PrintLast Go.Proofs.YtlpdongckcaclaaW.PrintMore
open Go.Proofs.YtlpdongckcaclaaW.PrintWords renaming pw_below_drewN → pN, below_drew1 → dI, blk_drewN → bN, blk_alloc → bL, blk_below → bB, blk_cell → bC, blk_frozen → bF, blk_far → bX, blk_drew → bD
attribute [local go_sem] max2_int min2_int max_two min_two max_three min_three max_four min_four   -- for this text's walks alone
set_option linter.unusedVariables false
set_option linter.unusedSimpArgs false

attribute [local go_sem high] eqA24 eqA26
/-! ### perigeelaw1_LimbShifts: function 10 -/
def perigeelaw1_LimbShifts.f (k : Nat) (a0_0 : Int) (a0_1 : Int) (a0_2 : Int) (a0_3 : Int) (a1_0 : Int) (a1_1 : Int) (a1_2 : Int) (a1_3 : Int) (a2 : Int) : Option (Bool) := (limb_Shl.f a0_0 a0_1 a0_2 a0_3 a2).bind fun bt259 => ((perigeeref1_Shl.f k a0_0 a0_1 a0_2 a0_3 a2).bind fun bt263 => (if ((bt259.1 == bt263.1 && (bt259.2.1 == bt263.2.1)) && ((bt259.2.2.1 == bt263.2.2.1 && (bt259.2.2.2 == bt263.2.2.2)))) = true then ((limb_Shr.f a0_0 a0_1 a0_2 a0_3 a2).bind fun bt267 => ((perigeeref1_Shr.f k a0_0 a0_1 a0_2 a0_3 a2).bind fun bt271 => (if ((bt267.1 == bt271.1 && (bt267.2.1 == bt271.2.1)) && ((bt267.2.2.1 == bt271.2.2.1 && (bt267.2.2.2 == bt271.2.2.2)))) = true then ((limb_Cmp.f k a0_0 a0_1 a0_2 a0_3 a1_0 a1_1 a1_2 a1_3).bind fun t275 => ((perigeeref1_CmpFour.f k a0_0 a0_1 a0_2 a0_3 a1_0 a1_1 a1_2 a1_3).bind fun t276 => (if t275 = t276 then ((limb_Len.f a0_0 a0_1 a0_2 a0_3).bind fun t277 => ((perigeeref1_Len.f k a0_0 a0_1 a0_2 a0_3).bind fun t278 => (if t277 = t278 then ((limb_Sqrt.f k a0_0 a0_1 a0_2 a0_3).bind fun bt279 => ((perigeeref1_Root.f k a0_0 a0_1 a0_2 a0_3).bind fun bt281 => (if (bt279.1 == bt281.1 && (bt279.2 == bt281.2)) = true then ((perigeelaw1_awake.f k).bind fun t283 => (some t283)) else (none)))) else (none)))) else (none)))) else (none)))) else (none)))
theorem perigeelaw1_LimbShifts.mono : ∀ a0 a1 a2 a3 a4 a5 a6 a7 a8 k, LeO (perigeelaw1_LimbShifts.f k a0 a1 a2 a3 a4 a5 a6 a7 a8) (perigeelaw1_LimbShifts.f (k + 1) a0 a1 a2 a3 a4 a5 a6 a7 a8) := by
 intro a0 a1 a2 a3 a4 a5 a6 a7 a8 k
 unfold perigeelaw1_LimbShifts.f
 repeat' first
   | (with_reducible exact limb_Cmp.mono _ _ _ _ _ _ _ _ _)
   | (with_reducible exact limb_Sqrt.mono _ _ _ _ _)
   | (with_reducible exact perigeelaw1_awake.mono _)
   | (with_reducible exact perigeeref1_CmpFour.mono _ _ _ _ _ _ _ _ _)
   | (with_reducible exact perigeeref1_Len.mono _ _ _ _ _)
   | (with_reducible exact perigeeref1_Root.mono _ _ _ _ _)
   | (with_reducible exact perigeeref1_Shl.mono _ _ _ _ _ _)
   | (with_reducible exact perigeeref1_Shr.mono _ _ _ _ _ _)
   | (with_reducible exact LeO.refl _)
   | (with_reducible exact LeO.none _)
   | (with_reducible refine LeO.ite ?_ ?_)
   | (with_reducible refine LeO.bind ?_ (fun _ => ?_))
   | exact limb_Cmp.mono _ _ _ _ _ _ _ _ _
   | exact limb_Sqrt.mono _ _ _ _ _
   | exact perigeelaw1_awake.mono _
   | exact perigeeref1_CmpFour.mono _ _ _ _ _ _ _ _ _
   | exact perigeeref1_Len.mono _ _ _ _ _
   | exact perigeeref1_Root.mono _ _ _ _ _
   | exact perigeeref1_Shl.mono _ _ _ _ _ _
   | exact perigeeref1_Shr.mono _ _ _ _ _ _
   | exact LeO.none _
   | refine LeO.ite ?_ ?_
   | refine LeO.bind ?_ (fun _ => ?_)
def perigeelaw1_LimbShifts.T1 : Bool × List (List Nat × List Nat) := (true, [([], []), ([], []), ([0, 1], [0, 1]), ([], []), ([], []), ([3, 4, 2], [3, 4]), ([2, 5], [2, 5]), ([6, 5], [6]), ([7], [7]), ([7], [7]), ([8, 9, 7, 7], [7, 8, 9]), ([7], [7]), ([7], [7]), ([11, 12, 10, 7], [7, 11, 12]), ([10, 13, 7], [7, 10, 13]), ([7, 14], [7, 14]), ([15, 13], [15]), ([16], [16]), ([16], [16]), ([17, 18, 16, 16], [16, 17, 18]), ([16], [16]), ([16], [16]), ([20, 21, 19, 16], [16, 20, 21]), ([19, 22, 16], [16, 19, 22]), ([16, 23], [16, 23]), ([24, 22], [24]), ([25], [25]), ([26, 25, 25], [25, 26]), ([25], [25]), ([28, 27, 25], [25, 28]), ([27, 29, 25], [25, 27, 29]), ([25, 30], [25, 30]), ([31, 29], [31]), ([32], [32]), ([33, 32, 32], [32, 33]), ([32], [32]), ([35, 34, 32], [32, 35]), ([34, 36, 32], [32, 34, 36]), ([32, 37], [32, 37]), ([38, 36], [38]), ([39, 39], [39]), ([39, 40], [39, 40]), ([41, 40, 0, 1, 2, 3, 4, 5, 6, 7, 8, 9, 10, 11, 12, 13, 14, 15, 16, 17, 18, 19, 20, 21, 22, 23, 24, 25, 26, 27, 28, 29, 30, 31, 32, 33, 34, 35, 36, 37, 38, 39, 40, 41], [41])])
def perigeelaw1_LimbShifts.B1 : List Nat := [0, 0, 3, 0, 0, 31, 63, 127, 255, 255, 1023, 255, 255, 8191, 16383, 32767, 65535, 131071, 131071, 524287, 131071, 131071, 4194303, 8388607, 16777215, 33554431, 67108863, 134217727, 67108863, 536870911, 1073741823, 2147483647, 4294967295, 8589934591, 17179869183, 8589934591, 68719476735, 137438953471, 274877906943, 549755813887, 1099511627775, 2199023255551, 4398046511103]
theorem perigeelaw1_LimbShifts.tab1 : rtab .any (opsOf Try.f10 1) = perigeelaw1_LimbShifts.T1 := by kernel_rfl
theorem perigeelaw1_LimbShifts.bits1 : waitsOk perigeelaw1_LimbShifts.T1.2 perigeelaw1_LimbShifts.B1 = true := by kernel_rfl
set_option maxHeartbeats 8000000 in
set_option maxRecDepth 100000 in
theorem perigeelaw1_LimbShifts.calls (k : Nat) (a0_0 : Int) (a0_1 : Int) (a0_2 : Int) (a0_3 : Int) (a1_0 : Int) (a1_1 : Int) (a1_2 : Int) (a1_3 : Int) (a2 : Int) (r : Bool) (w : World) (h : perigeelaw1_LimbShifts.f k a0_0 a0_1 a0_2 a0_3 a1_0 a1_1 a1_2 a1_3 a2 = some r) :
  Calls Try.prog 10 #[.agg #[.int .u64 a0_0, .int .u64 a0_1, .int .u64 a0_2, .int .u64 a0_3], .agg #[.int .u64 a1_0, .int .u64 a1_1, .int .u64 a1_2, .int .u64 a1_3], .int .i64 a2] w fun e w' => e = .returned (.bool r) ∧ Below w.heap.size w w' := by
 have hu26 := Try.underlying26
 have HB := Aside0.mk (Below.refl w.heap.size w)
 have H : ((limb_Shl.f a0_0 a0_1 a0_2 a0_3 a2).bind fun bt259 => ((perigeeref1_Shl.f k a0_0 a0_1 a0_2 a0_3 a2).bind fun bt263 => (if ((bt259.1 == bt263.1 && (bt259.2.1 == bt263.2.1)) && ((bt259.2.2.1 == bt263.2.2.1 && (bt259.2.2.2 == bt263.2.2.2)))) = true then ((limb_Shr.f a0_0 a0_1 a0_2 a0_3 a2).bind fun bt267 => ((perigeeref1_Shr.f k a0_0 a0_1 a0_2 a0_3 a2).bind fun bt271 => (if ((bt267.1 == bt271.1 && (bt267.2.1 == bt271.2.1)) && ((bt267.2.2.1 == bt271.2.2.1 && (bt267.2.2.2 == bt271.2.2.2)))) = true then ((limb_Cmp.f k a0_0 a0_1 a0_2 a0_3 a1_0 a1_1 a1_2 a1_3).bind fun t275 => ((perigeeref1_CmpFour.f k a0_0 a0_1 a0_2 a0_3 a1_0 a1_1 a1_2 a1_3).bind fun t276 => (if t275 = t276 then ((limb_Len.f a0_0 a0_1 a0_2 a0_3).bind fun t277 => ((perigeeref1_Len.f k a0_0 a0_1 a0_2 a0_3).bind fun t278 => (if t277 = t278 then ((limb_Sqrt.f k a0_0 a0_1 a0_2 a0_3).bind fun bt279 => ((perigeeref1_Root.f k a0_0 a0_1 a0_2 a0_3).bind fun bt281 => (if (bt279.1 == bt281.1 && (bt279.2 == bt281.2)) = true then ((perigeelaw1_awake.f k).bind fun t283 => (some t283)) else (none)))) else (none)))) else (none)))) else (none)))) else (none)))) = some r := h
 clear h
 replace H := Option.bind_eq_some_iff.mp H
 obtain ⟨⟨t259, t260, t261, t262⟩, A40, H⟩ := H
 replace H : ((perigeeref1_Shl.f k a0_0 a0_1 a0_2 a0_3 a2).bind fun bt263 => (if ((t259 == bt263.1 && (t260 == bt263.2.1)) && ((t261 == bt263.2.2.1 && (t262 == bt263.2.2.2)))) = true then ((limb_Shr.f a0_0 a0_1 a0_2 a0_3 a2).bind fun bt267 => ((perigeeref1_Shr.f k a0_0 a0_1 a0_2 a0_3 a2).bind fun bt271 => (if ((bt267.1 == bt271.1 && (bt267.2.1 == bt271.2.1)) && ((bt267.2.2.1 == bt271.2.2.1 && (bt267.2.2.2 == bt271.2.2.2)))) = true then ((limb_Cmp.f k a0_0 a0_1 a0_2 a0_3 a1_0 a1_1 a1_2 a1_3).bind fun t275 => ((perigeeref1_CmpFour.f k a0_0 a0_1 a0_2 a0_3 a1_0 a1_1 a1_2 a1_3).bind fun t276 => (if t275 = t276 then ((limb_Len.f a0_0 a0_1 a0_2 a0_3).bind fun t277 => ((perigeeref1_Len.f k a0_0 a0_1 a0_2 a0_3).bind fun t278 => (if t277 = t278 then ((limb_Sqrt.f k a0_0 a0_1 a0_2 a0_3).bind fun bt279 => ((perigeeref1_Root.f k a0_0 a0_1 a0_2 a0_3).bind fun bt281 => (if (bt279.1 == bt281.1 && (bt279.2 == bt281.2)) = true then ((perigeelaw1_awake.f k).bind fun t283 => (some t283)) else (none)))) else (none)))) else (none)))) else (none)))) else (none))) = some r := H
 have A4 := Aside0.mk A40
 clear A40
 replace H := Option.bind_eq_some_iff.mp H
 obtain ⟨⟨t263, t264, t265, t266⟩, A50, H⟩ := H
 replace H : (if ((t259 == t263 && (t260 == t264)) && ((t261 == t265 && (t262 == t266)))) = true then ((limb_Shr.f a0_0 a0_1 a0_2 a0_3 a2).bind fun bt267 => ((perigeeref1_Shr.f k a0_0 a0_1 a0_2 a0_3 a2).bind fun bt271 => (if ((bt267.1 == bt271.1 && (bt267.2.1 == bt271.2.1)) && ((bt267.2.2.1 == bt271.2.2.1 && (bt267.2.2.2 == bt271.2.2.2)))) = true then ((limb_Cmp.f k a0_0 a0_1 a0_2 a0_3 a1_0 a1_1 a1_2 a1_3).bind fun t275 => ((perigeeref1_CmpFour.f k a0_0 a0_1 a0_2 a0_3 a1_0 a1_1 a1_2 a1_3).bind fun t276 => (if t275 = t276 then ((limb_Len.f a0_0 a0_1 a0_2 a0_3).bind fun t277 => ((perigeeref1_Len.f k a0_0 a0_1 a0_2 a0_3).bind fun t278 => (if t277 = t278 then ((limb_Sqrt.f k a0_0 a0_1 a0_2 a0_3).bind fun bt279 => ((perigeeref1_Root.f k a0_0 a0_1 a0_2 a0_3).bind fun bt281 => (if (bt279.1 == bt281.1 && (bt279.2 == bt281.2)) = true then ((perigeelaw1_awake.f k).bind fun t283 => (some t283)) else (none)))) else (none)))) else (none)))) else (none)))) else (none)) = some r := H
 have A5 := Aside0.mk A50
 clear A50
 by_cases c6 : ((t259 == t263 && (t260 == t264)) && ((t261 == t265 && (t262 == t266)))) = true
 ·rw [if_pos c6] at H
  have c6b0 : ((t259 == t263 && (t260 == t264)) && ((t261 == t265 && (t262 == t266)))) = true := c6
  clear c6
  replace H := Option.bind_eq_some_iff.mp H
  obtain ⟨⟨t267, t268, t269, t270⟩, A70, H⟩ := H
  replace H : ((perigeeref1_Shr.f k a0_0 a0_1 a0_2 a0_3 a2).bind fun bt271 => (if ((t267 == bt271.1 && (t268 == bt271.2.1)) && ((t269 == bt271.2.2.1 && (t270 == bt271.2.2.2)))) = true then ((limb_Cmp.f k a0_0 a0_1 a0_2 a0_3 a1_0 a1_1 a1_2 a1_3).bind fun t275 => ((perigeeref1_CmpFour.f k a0_0 a0_1 a0_2 a0_3 a1_0 a1_1 a1_2 a1_3).bind fun t276 => (if t275 = t276 then ((limb_Len.f a0_0 a0_1 a0_2 a0_3).bind fun t277 => ((perigeeref1_Len.f k a0_0 a0_1 a0_2 a0_3).bind fun t278 => (if t277 = t278 then ((limb_Sqrt.f k a0_0 a0_1 a0_2 a0_3).bind fun bt279 => ((perigeeref1_Root.f k a0_0 a0_1 a0_2 a0_3).bind fun bt281 => (if (bt279.1 == bt281.1 && (bt279.2 == bt281.2)) = true then ((perigeelaw1_awake.f k).bind fun t283 => (some t283)) else (none)))) else (none)))) else (none)))) else (none))) = some r := H
  have A7 := Aside0.mk A70
  clear A70
  replace H := Option.bind_eq_some_iff.mp H
  obtain ⟨⟨t271, t272, t273, t274⟩, A80, H⟩ := H
  replace H : (if ((t267 == t271 && (t268 == t272)) && ((t269 == t273 && (t270 == t274)))) = true then ((limb_Cmp.f k a0_0 a0_1 a0_2 a0_3 a1_0 a1_1 a1_2 a1_3).bind fun t275 => ((perigeeref1_CmpFour.f k a0_0 a0_1 a0_2 a0_3 a1_0 a1_1 a1_2 a1_3).bind fun t276 => (if t275 = t276 then ((limb_Len.f a0_0 a0_1 a0_2 a0_3).bind fun t277 => ((perigeeref1_Len.f k a0_0 a0_1 a0_2 a0_3).bind fun t278 => (if t277 = t278 then ((limb_Sqrt.f k a0_0 a0_1 a0_2 a0_3).bind fun bt279 => ((perigeeref1_Root.f k a0_0 a0_1 a0_2 a0_3).bind fun bt281 => (if (bt279.1 == bt281.1 && (bt279.2 == bt281.2)) = true then ((perigeelaw1_awake.f k).bind fun t283 => (some t283)) else (none)))) else (none)))) else (none)))) else (none)) = some r := H
  have A8 := Aside0.mk A80
  clear A80
  by_cases c9 : ((t267 == t271 && (t268 == t272)) && ((t269 == t273 && (t270 == t274)))) = true
  ·rw [if_pos c9] at H
   have c9b0 : ((t267 == t271 && (t268 == t272)) && ((t269 == t273 && (t270 == t274)))) = true := c9
   clear c9
   replace H := Option.bind_eq_some_iff.mp H
   obtain ⟨t275, A100, H⟩ := H
   replace H : ((perigeeref1_CmpFour.f k a0_0 a0_1 a0_2 a0_3 a1_0 a1_1 a1_2 a1_3).bind fun t276 => (if t275 = t276 then ((limb_Len.f a0_0 a0_1 a0_2 a0_3).bind fun t277 => ((perigeeref1_Len.f k a0_0 a0_1 a0_2 a0_3).bind fun t278 => (if t277 = t278 then ((limb_Sqrt.f k a0_0 a0_1 a0_2 a0_3).bind fun bt279 => ((perigeeref1_Root.f k a0_0 a0_1 a0_2 a0_3).bind fun bt281 => (if (bt279.1 == bt281.1 && (bt279.2 == bt281.2)) = true then ((perigeelaw1_awake.f k).bind fun t283 => (some t283)) else (none)))) else (none)))) else (none))) = some r := H
   have A10 := Aside0.mk A100
   clear A100
   replace H := Option.bind_eq_some_iff.mp H
   obtain ⟨t276, A110, H⟩ := H
   replace H : (if t275 = t276 then ((limb_Len.f a0_0 a0_1 a0_2 a0_3).bind fun t277 => ((perigeeref1_Len.f k a0_0 a0_1 a0_2 a0_3).bind fun t278 => (if t277 = t278 then ((limb_Sqrt.f k a0_0 a0_1 a0_2 a0_3).bind fun bt279 => ((perigeeref1_Root.f k a0_0 a0_1 a0_2 a0_3).bind fun bt281 => (if (bt279.1 == bt281.1 && (bt279.2 == bt281.2)) = true then ((perigeelaw1_awake.f k).bind fun t283 => (some t283)) else (none)))) else (none)))) else (none)) = some r := H
   have A11 := Aside0.mk A110
   clear A110
   by_cases c12 : t275 = t276
   ·rw [if_pos c12] at H
    have c12b0 : (t275 == t276) = true := beq_iff_eq.mpr c12
    have c12b1 : (t275 != t276) = false := bne_eq_false_iff_eq.mpr c12
    clear c12
    replace H := Option.bind_eq_some_iff.mp H
    obtain ⟨t277, A130, H⟩ := H
    replace H : ((perigeeref1_Len.f k a0_0 a0_1 a0_2 a0_3).bind fun t278 => (if t277 = t278 then ((limb_Sqrt.f k a0_0 a0_1 a0_2 a0_3).bind fun bt279 => ((perigeeref1_Root.f k a0_0 a0_1 a0_2 a0_3).bind fun bt281 => (if (bt279.1 == bt281.1 && (bt279.2 == bt281.2)) = true then ((perigeelaw1_awake.f k).bind fun t283 => (some t283)) else (none)))) else (none))) = some r := H
    have A13 := Aside0.mk A130
    clear A130
    replace H := Option.bind_eq_some_iff.mp H
    obtain ⟨t278, A140, H⟩ := H
    replace H : (if t277 = t278 then ((limb_Sqrt.f k a0_0 a0_1 a0_2 a0_3).bind fun bt279 => ((perigeeref1_Root.f k a0_0 a0_1 a0_2 a0_3).bind fun bt281 => (if (bt279.1 == bt281.1 && (bt279.2 == bt281.2)) = true then ((perigeelaw1_awake.f k).bind fun t283 => (some t283)) else (none)))) else (none)) = some r := H
    have A14 := Aside0.mk A140
    clear A140
    by_cases c15 : t277 = t278
    ·rw [if_pos c15] at H
     have c15b0 : (t277 == t278) = true := beq_iff_eq.mpr c15
     have c15b1 : (t277 != t278) = false := bne_eq_false_iff_eq.mpr c15
     clear c15
     replace H := Option.bind_eq_some_iff.mp H
     obtain ⟨⟨t279, t280⟩, A160, H⟩ := H
     replace H : ((perigeeref1_Root.f k a0_0 a0_1 a0_2 a0_3).bind fun bt281 => (if (t279 == bt281.1 && (t280 == bt281.2)) = true then ((perigeelaw1_awake.f k).bind fun t283 => (some t283)) else (none))) = some r := H
     have A16 := Aside0.mk A160
     clear A160
     replace H := Option.bind_eq_some_iff.mp H
     obtain ⟨⟨t281, t282⟩, A170, H⟩ := H
     replace H : (if (t279 == t281 && (t280 == t282)) = true then ((perigeelaw1_awake.f k).bind fun t283 => (some t283)) else (none)) = some r := H
     have A17 := Aside0.mk A170
     clear A170
     by_cases c18 : (t279 == t281 && (t280 == t282)) = true
     ·rw [if_pos c18] at H
      have c18b0 : (t279 == t281 && (t280 == t282)) = true := c18
      (try (have c18b1 : decide (t279 = t281 && (t280 == t282)) = true := by simpa using c18))
      (try (have c18b2 : (t279 == t281 && (t280 == t282)) = true := by simpa using c18))
      clear c18
      replace H := Option.bind_eq_some_iff.mp H
      obtain ⟨t283, A190, H⟩ := H
      replace H : (some t283) = some r := H
      have A19 := Aside0.mk A190
      clear A190
      obtain rfl := Option.some.inj H
      go_enter Try.func10, Try.ntmps10
      try go_wp2_with (first | ((with_reducible refine gate_dst (N := 3) rfl ?_); refine box_event ?hg (N := 3) ?hd (cs := #[.int .u64 a0_0, .int .u64 a0_1, .int .u64 a0_2, .int .u64 a0_3]) (t := 26) ?hr ?_; (case hd => rfl); (case hg => rfl); (case hr => first | (go_simp; done) | (go_simp; rfl)); intro gb257 hg w20 hbox hb; have n0_ := Aside0.mk (below_step (by repeat (first | (with_reducible first | exact HB.out | apply below_alloc | apply pN | apply dI) | exact HB.out)) hb); have n1_ := Aside0.mk (hbox); have n2_ := Aside0.mk ((by rw [hg]; exact (below_size (by repeat (first | (with_reducible first | exact HB.out | apply below_alloc | apply pN | apply dI) | exact HB.out))) : w.heap.size ≤ gb257)); have n3_ := Aside0.mk ((by rw [hg]; exact (below_size (by repeat (first | (with_reducible first | exact HB.out | apply below_alloc | apply pN | apply dI) | exact HB.out))) : w.heap.size ≤ gb257)); clear HB; have HB := n0_; have BK257 := n1_; have GW257 := n2_; have GE257 := n3_; clear n0_ n1_ n2_ n3_; clear hb hbox hg) | ((with_reducible refine gate_dst (N := 4) rfl ?_); refine box_event ?hg (N := 4) ?hd (cs := #[.int .u64 a1_0, .int .u64 a1_1, .int .u64 a1_2, .int .u64 a1_3]) (t := 26) ?hr ?_; (case hd => rfl); (case hg => rfl); (case hr => first | (go_simp; done) | (go_simp; rfl)); intro gb258 hg w21 hbox hb; have n0_ := Aside0.mk (bB (g := gb257) (o := .cells #[.int .u64 a0_0, .int .u64 a0_1, .int .u64 a0_2, .int .u64 a0_3] 26 (0, 0)) (by (with_reducible repeat (first | refine bN ?_ _ | refine bD ?_ | refine bL ?_ _)); exact BK257.out) hb); have n1_ := Aside0.mk (below_step (by repeat (first | (with_reducible first | exact HB.out | apply below_alloc | apply pN | apply dI | refine below_set ?_ GE257.out) | exact HB.out)) hb); have n2_ := Aside0.mk (hbox); have n3_ := Aside0.mk ((by rw [hg]; exact (below_size (by repeat (first | (with_reducible first | exact HB.out | apply below_alloc | apply pN | apply dI | refine below_set ?_ GE257.out) | exact HB.out))) : w.heap.size ≤ gb258)); have n4_ := Aside0.mk ((by rw [hg]; exact (below_size (by repeat (first | (with_reducible first | exact HB.out | apply below_alloc | apply pN | apply dI | refine below_set ?_ GE257.out) | exact HB.out))) : w.heap.size ≤ gb258)); have n5_ := Aside0.mk ((by rw [hg]; exact Nat.ne_of_lt (blk_lt (g := gb257) (o := .cells #[.int .u64 a0_0, .int .u64 a0_1, .int .u64 a0_2, .int .u64 a0_3] 26 (0, 0)) (by (with_reducible repeat (first | refine bN ?_ _ | refine bD ?_ | refine bL ?_ _)); exact BK257.out)) : gb257 ≠ gb258)); have n6_ := Aside0.mk ((by rw [hg]; exact Nat.ne_of_gt (blk_lt (g := gb257) (o := .cells #[.int .u64 a0_0, .int .u64 a0_1, .int .u64 a0_2, .int .u64 a0_3] 26 (0, 0)) (by (with_reducible repeat (first | refine bN ?_ _ | refine bD ?_ | refine bL ?_ _)); exact BK257.out)) : gb258 ≠ gb257)); clear BK257; clear HB; have BK257 := n0_; have HB := n1_; have BK258 := n2_; have GW258 := n3_; have GE258 := n4_; have NB257_258 := n5_; have NB258_257 := n6_; clear n0_ n1_ n2_ n3_ n4_ n5_ n6_; clear hb hbox hg))
      have n0_ := Aside0.mk (bD BK257.out)
      have n1_ := Aside0.mk (bD BK258.out)
      have n2_ := Aside0.mk (dI HB.out)
      clear BK257
      clear BK258
      clear HB
      have BK257 := n0_
      have BK258 := n1_
      have HB := n2_
      clear n0_ n1_ n2_
      refine start_ (n := 43) (S := fun w' => w'.cell? ⟨gb257, 0, none⟩ = some (.int .u64 a0_0) ∧ w'.cell? ⟨gb257, 1, none⟩ = some (.int .u64 a0_1) ∧ w'.cell? ⟨gb257, 2, none⟩ = some (.int .u64 a0_2) ∧ w'.cell? ⟨gb257, 3, none⟩ = some (.int .u64 a0_3) ∧ w'.cell? ⟨gb258, 0, none⟩ = some (.int .u64 a1_0) ∧ w'.cell? ⟨gb258, 1, none⟩ = some (.int .u64 a1_1) ∧ w'.cell? ⟨gb258, 2, none⟩ = some (.int .u64 a1_2) ∧ w'.cell? ⟨gb258, 3, none⟩ = some (.int .u64 a1_3)) (ds := []) (bA 43 0) (by kernel_rfl) rfl rfl ⟨(bC BK257.out 0).trans rfl, (bC BK257.out 1).trans rfl, (bC BK257.out 2).trans rfl, (bC BK257.out 3).trans rfl, (bC BK258.out 0).trans rfl, (bC BK258.out 1).trans rfl, (bC BK258.out 2).trans rfl, (bC BK258.out 3).trans rfl⟩ (fun hHeld => ?_); refine with_tabW perigeelaw1_LimbShifts.tab1 perigeelaw1_LimbShifts.bits1 (fun HT_ HW_ => ?_)
      generalize w21.drew = w22 at BK257 BK258 HB hHeld ⊢
      refine pure_ (i := 1) (N := some 8) (v := ?_) (a' := ?_) (bA 43 2) rfl rfl (any_of HT_.out (by kernel_rfl)) (fun _ _ _ h => h) (Or.inl ⟨by rfl, ?_⟩) ?_ ?_
      rotate_left
      ·intro w'
       go_simp
       with_reducible rfl
      rotate_left
      ·simp only [Act.put, List.setIfInBounds_toArray, List.set_cons_zero, List.set_cons_succ, i64_w, i32_w]
       rfl
      refine pure_ (i := 4) (N := some 11) (v := ?_) (a' := ?_) (bA 43 18) rfl rfl (any_of HT_.out (by kernel_rfl)) (fun _ _ _ h => h) (Or.inl ⟨by rfl, ?_⟩) ?_ ?_
      rotate_left
      ·intro w'
       go_simp
       with_reducible rfl
      rotate_left
      ·simp only [Act.put, List.setIfInBounds_toArray, List.set_cons_zero, List.set_cons_succ, i64_w, i32_w]
       rfl
      refine take_ (i := 0) (N := some 7) (v := ?_) (a' := ?_) (bA 43 19) rfl rfl (take_ofW HT_.out HW_.out (by kernel_rfl)) (fun _ _ _ h => h) (Or.inl ⟨by rfl, ?_⟩) hHeld ?_ ?_
      rotate_left
      ·rintro w' ⟨s0, s1, s2, s3, s4, s5, s6, s7⟩
       go_simp
       with_reducible rfl
      rotate_left
      ·simp only [Act.put, List.setIfInBounds_toArray, List.set_cons_zero, List.set_cons_succ, i64_w, i32_w]
       rfl
      refine take_ (i := 3) (N := some 10) (v := ?_) (a' := ?_) (bA 43 27) rfl rfl (take_ofW HT_.out HW_.out (by kernel_rfl)) (fun _ _ _ h => h) (Or.inl ⟨by rfl, ?_⟩) hHeld ?_ ?_
      rotate_left
      ·rintro w' ⟨s0, s1, s2, s3, s4, s5, s6, s7⟩
       go_simp
       with_reducible rfl
      rotate_left
      ·simp only [Act.put, List.setIfInBounds_toArray, List.set_cons_zero, List.set_cons_succ, i64_w, i32_w]
       rfl
      refine one_ (i := 2) (N := some 9) (bA 43 31) rfl rfl (one_of HT_.out (by kernel_rfl)) (by decide) (fun K hK => ?_)
      refine goes_ Try.func23 (by kernel_rfl) rfl #[.agg #[.int .u64 a0_0, .int .u64 a0_1, .int .u64 a0_2, .int .u64 a0_3], .int .i64 a2] (by rfl) rfl rfl (by (try simp only [List.map_toArray, List.map_cons, List.map_nil]); first | done | rfl | (simp only [List.length_drop, List.length_take]; rfl)) ?_
      with_reducible refine (limb_Shl.calls a0_0 a0_1 a0_2 a0_3 a2 t259 t260 t261 t262 _ A4.out).mono ?_
      rintro e w23 ⟨rfl, hb⟩
      refine ⟨_, rfl, ?_⟩
      have n0_ := Aside0.mk (bB (g := gb257) (o := .cells #[.int .u64 a0_0, .int .u64 a0_1, .int .u64 a0_2, .int .u64 a0_3] 26 (0, 0)) (by (with_reducible repeat (first | refine bN ?_ _ | refine bD ?_ | refine bL ?_ _)); exact BK257.out) hb)
      have n1_ := Aside0.mk (bB (g := gb258) (o := .cells #[.int .u64 a1_0, .int .u64 a1_1, .int .u64 a1_2, .int .u64 a1_3] 26 (0, 0)) (by (with_reducible repeat (first | refine bN ?_ _ | refine bD ?_ | refine bL ?_ _)); exact BK258.out) hb)
      have n2_ := Aside0.mk (below_step (by repeat (first | (with_reducible first | exact HB.out | apply below_alloc | apply pN | apply dI | refine below_set ?_ GE257.out | refine below_set ?_ GE258.out) | exact HB.out)) hb)
      clear BK257
      clear BK258
      clear HB
      have BK257 := n0_
      have BK258 := n1_
      have HB := n2_
      clear n0_ n1_ n2_
      (try clear hb)
      (try clear hb2)
      (try clear hk)
      (try clear hi)
      refine hK.out _ _ ⟨(bC BK257.out 0).trans rfl, (bC BK257.out 1).trans rfl, (bC BK257.out 2).trans rfl, (bC BK257.out 3).trans rfl, (bC BK258.out 0).trans rfl, (bC BK258.out 1).trans rfl, (bC BK258.out 2).trans rfl, (bC BK258.out 3).trans rfl⟩ (fun hHeld => ?_)
      clear hK K
      refine norm_ (a' := ?_) ?_ ?_
      rotate_left
      ·show Act.put _ (some 9) _ = _
       simp only [Act.put, List.setIfInBounds_toArray, List.set_cons_zero, List.set_cons_succ, i64_w, i32_w]
       rfl
      refine one_ (i := 5) (N := some 12) (bA 43 63) rfl rfl (one_of HT_.out (by kernel_rfl)) (by decide) (fun K hK => ?_)
      refine goes_ Try.func24 (by kernel_rfl) rfl #[.agg #[.int .u64 a0_0, .int .u64 a0_1, .int .u64 a0_2, .int .u64 a0_3], .int .i64 a2] (by rfl) rfl rfl (by (try simp only [List.map_toArray, List.map_cons, List.map_nil]); first | done | rfl | (simp only [List.length_drop, List.length_take]; rfl)) ?_
      with_reducible refine (perigeeref1_Shl.calls k a0_0 a0_1 a0_2 a0_3 a2 t263 t264 t265 t266 _ A5.out).mono ?_
      rintro e w24 ⟨rfl, hb⟩
      refine ⟨_, rfl, ?_⟩
      have n0_ := Aside0.mk (bB (g := gb257) (o := .cells #[.int .u64 a0_0, .int .u64 a0_1, .int .u64 a0_2, .int .u64 a0_3] 26 (0, 0)) (by (with_reducible repeat (first | refine bN ?_ _ | refine bD ?_ | refine bL ?_ _)); exact BK257.out) hb)
      have n1_ := Aside0.mk (bB (g := gb258) (o := .cells #[.int .u64 a1_0, .int .u64 a1_1, .int .u64 a1_2, .int .u64 a1_3] 26 (0, 0)) (by (with_reducible repeat (first | refine bN ?_ _ | refine bD ?_ | refine bL ?_ _)); exact BK258.out) hb)
      have n2_ := Aside0.mk (below_step (by repeat (first | (with_reducible first | exact HB.out | apply below_alloc | apply pN | apply dI | refine below_set ?_ GE257.out | refine below_set ?_ GE258.out) | exact HB.out)) hb)
      clear BK257
      clear BK258
      clear HB
      have BK257 := n0_
      have BK258 := n1_
      have HB := n2_
      clear n0_ n1_ n2_
      (try clear hb)
      (try clear hb2)
      (try clear hk)
      (try clear hi)
      refine hK.out _ _ ⟨(bC BK257.out 0).trans rfl, (bC BK257.out 1).trans rfl, (bC BK257.out 2).trans rfl, (bC BK257.out 3).trans rfl, (bC BK258.out 0).trans rfl, (bC BK258.out 1).trans rfl, (bC BK258.out 2).trans rfl, (bC BK258.out 3).trans rfl⟩ (fun hHeld => ?_)
      clear hK K
      refine norm_ (a' := ?_) ?_ ?_
      rotate_left
      ·show Act.put _ (some 12) _ = _
       simp only [Act.put, List.setIfInBounds_toArray, List.set_cons_zero, List.set_cons_succ, i64_w, i32_w]
       rfl
      refine pure_ (i := 6) (N := some 13) (v := ?_) (a' := ?_) (bA 43 127) rfl rfl (any_of HT_.out (by kernel_rfl)) (fun _ _ _ h => h) (Or.inl ⟨by rfl, ?_⟩) ?_ ?_
      rotate_left
      ·intro w'
       go_simp
       with_reducible rfl
      rotate_left
      ·simp only [Act.put, List.setIfInBounds_toArray, List.set_cons_zero, List.set_cons_succ, i64_w, i32_w]
       rfl
      refine pure_ (i := 7) (N := some 14) (v := ?_) (a' := ?_) (bA 43 255) rfl rfl (any_of HT_.out (by kernel_rfl)) (fun _ _ _ h => h) (Or.inl ⟨by rfl, ?_⟩) ?_ ?_
      rotate_left
      ·intro w'
       go_simp
       with_reducible rfl
      rotate_left
      ·simp only [Act.put, List.setIfInBounds_toArray, List.set_cons_zero, List.set_cons_succ, i64_w, i32_w]
       rfl
      refine pure_ (i := 9) (N := some 16) (v := ?_) (a' := ?_) (bA 43 767) rfl rfl (any_of HT_.out (by kernel_rfl)) (fun _ _ _ h => h) (Or.inl ⟨by rfl, ?_⟩) ?_ ?_
      rotate_left
      ·intro w'
       go_simp
       with_reducible rfl
      rotate_left
      ·simp only [Act.put, List.setIfInBounds_toArray, List.set_cons_zero, List.set_cons_succ, i64_w, i32_w]
       rfl
      refine pure_ (i := 12) (N := some 19) (v := ?_) (a' := ?_) (bA 43 4863) rfl rfl (any_of HT_.out (by kernel_rfl)) (fun _ _ _ h => h) (Or.inl ⟨by rfl, ?_⟩) ?_ ?_
      rotate_left
      ·intro w'
       go_simp
       with_reducible rfl
      rotate_left
      ·simp only [Act.put, List.setIfInBounds_toArray, List.set_cons_zero, List.set_cons_succ, i64_w, i32_w]
       rfl
      refine take_ (i := 8) (N := some 15) (v := ?_) (a' := ?_) (bA 43 5119) rfl rfl (take_ofW HT_.out HW_.out (by kernel_rfl)) (fun _ _ _ h => h) (Or.inl ⟨by rfl, ?_⟩) hHeld ?_ ?_
      rotate_left
      ·rintro w' ⟨s0, s1, s2, s3, s4, s5, s6, s7⟩
       go_simp
       with_reducible rfl
      rotate_left
      ·simp only [Act.put, List.setIfInBounds_toArray, List.set_cons_zero, List.set_cons_succ, i64_w, i32_w]
       rfl
      refine take_ (i := 11) (N := some 18) (v := ?_) (a' := ?_) (bA 43 7167) rfl rfl (take_ofW HT_.out HW_.out (by kernel_rfl)) (fun _ _ _ h => h) (Or.inl ⟨by rfl, ?_⟩) hHeld ?_ ?_
      rotate_left
      ·rintro w' ⟨s0, s1, s2, s3, s4, s5, s6, s7⟩
       go_simp
       with_reducible rfl
      rotate_left
      ·simp only [Act.put, List.setIfInBounds_toArray, List.set_cons_zero, List.set_cons_succ, i64_w, i32_w]
       rfl
      refine one_ (i := 10) (N := some 17) (bA 43 8191) rfl rfl (one_of HT_.out (by kernel_rfl)) (by decide) (fun K hK => ?_)
      refine goes_ Try.func25 (by kernel_rfl) rfl #[.agg #[.int .u64 a0_0, .int .u64 a0_1, .int .u64 a0_2, .int .u64 a0_3], .int .i64 a2] (by rfl) rfl rfl (by (try simp only [List.map_toArray, List.map_cons, List.map_nil]); first | done | rfl | (simp only [List.length_drop, List.length_take]; rfl)) ?_
      with_reducible refine (limb_Shr.calls a0_0 a0_1 a0_2 a0_3 a2 t267 t268 t269 t270 _ A7.out).mono ?_
      rintro e w25 ⟨rfl, hb⟩
      refine ⟨_, rfl, ?_⟩
      have n0_ := Aside0.mk (bB (g := gb257) (o := .cells #[.int .u64 a0_0, .int .u64 a0_1, .int .u64 a0_2, .int .u64 a0_3] 26 (0, 0)) (by (with_reducible repeat (first | refine bN ?_ _ | refine bD ?_ | refine bL ?_ _)); exact BK257.out) hb)
      have n1_ := Aside0.mk (bB (g := gb258) (o := .cells #[.int .u64 a1_0, .int .u64 a1_1, .int .u64 a1_2, .int .u64 a1_3] 26 (0, 0)) (by (with_reducible repeat (first | refine bN ?_ _ | refine bD ?_ | refine bL ?_ _)); exact BK258.out) hb)
      have n2_ := Aside0.mk (below_step (by repeat (first | (with_reducible first | exact HB.out | apply below_alloc | apply pN | apply dI | refine below_set ?_ GE257.out | refine below_set ?_ GE258.out) | exact HB.out)) hb)
      clear BK257
      clear BK258
      clear HB
      have BK257 := n0_
      have BK258 := n1_
      have HB := n2_
      clear n0_ n1_ n2_
      (try clear hb)
      (try clear hb2)
      (try clear hk)
      (try clear hi)
      refine hK.out _ _ ⟨(bC BK257.out 0).trans rfl, (bC BK257.out 1).trans rfl, (bC BK257.out 2).trans rfl, (bC BK257.out 3).trans rfl, (bC BK258.out 0).trans rfl, (bC BK258.out 1).trans rfl, (bC BK258.out 2).trans rfl, (bC BK258.out 3).trans rfl⟩ (fun hHeld => ?_)
      clear hK K
      refine norm_ (a' := ?_) ?_ ?_
      rotate_left
      ·show Act.put _ (some 17) _ = _
       simp only [Act.put, List.setIfInBounds_toArray, List.set_cons_zero, List.set_cons_succ, i64_w, i32_w]
       rfl
      refine one_ (i := 13) (N := some 20) (bA 43 16383) rfl rfl (one_of HT_.out (by kernel_rfl)) (by decide) (fun K hK => ?_)
      refine goes_ Try.func26 (by kernel_rfl) rfl #[.agg #[.int .u64 a0_0, .int .u64 a0_1, .int .u64 a0_2, .int .u64 a0_3], .int .i64 a2] (by rfl) rfl rfl (by (try simp only [List.map_toArray, List.map_cons, List.map_nil]); first | done | rfl | (simp only [List.length_drop, List.length_take]; rfl)) ?_
      with_reducible refine (perigeeref1_Shr.calls k a0_0 a0_1 a0_2 a0_3 a2 t271 t272 t273 t274 _ A8.out).mono ?_
      rintro e w26 ⟨rfl, hb⟩
      refine ⟨_, rfl, ?_⟩
      have n0_ := Aside0.mk (bB (g := gb257) (o := .cells #[.int .u64 a0_0, .int .u64 a0_1, .int .u64 a0_2, .int .u64 a0_3] 26 (0, 0)) (by (with_reducible repeat (first | refine bN ?_ _ | refine bD ?_ | refine bL ?_ _)); exact BK257.out) hb)
      have n1_ := Aside0.mk (bB (g := gb258) (o := .cells #[.int .u64 a1_0, .int .u64 a1_1, .int .u64 a1_2, .int .u64 a1_3] 26 (0, 0)) (by (with_reducible repeat (first | refine bN ?_ _ | refine bD ?_ | refine bL ?_ _)); exact BK258.out) hb)
      have n2_ := Aside0.mk (below_step (by repeat (first | (with_reducible first | exact HB.out | apply below_alloc | apply pN | apply dI | refine below_set ?_ GE257.out | refine below_set ?_ GE258.out) | exact HB.out)) hb)
      clear BK257
      clear BK258
      clear HB
      have BK257 := n0_
      have BK258 := n1_
      have HB := n2_
      clear n0_ n1_ n2_
      (try clear hb)
      (try clear hb2)
      (try clear hk)
      (try clear hi)
      refine hK.out _ _ ⟨(bC BK257.out 0).trans rfl, (bC BK257.out 1).trans rfl, (bC BK257.out 2).trans rfl, (bC BK257.out 3).trans rfl, (bC BK258.out 0).trans rfl, (bC BK258.out 1).trans rfl, (bC BK258.out 2).trans rfl, (bC BK258.out 3).trans rfl⟩ (fun hHeld => ?_)
      clear hK K
      refine norm_ (a' := ?_) ?_ ?_
      rotate_left
      ·show Act.put _ (some 20) _ = _
       simp only [Act.put, List.setIfInBounds_toArray, List.set_cons_zero, List.set_cons_succ, i64_w, i32_w]
       rfl
      refine pure_ (i := 14) (N := some 21) (v := ?_) (a' := ?_) (bA 43 32767) rfl rfl (any_of HT_.out (by kernel_rfl)) (fun _ _ _ h => h) (Or.inl ⟨by rfl, ?_⟩) ?_ ?_
      rotate_left
      ·intro w'
       go_simp
       with_reducible rfl
      rotate_left
      ·simp only [Act.put, List.setIfInBounds_toArray, List.set_cons_zero, List.set_cons_succ, i64_w, i32_w]
       rfl
      refine pure_ (i := 15) (N := some 22) (v := ?_) (a' := ?_) (bA 43 65535) rfl rfl (any_of HT_.out (by kernel_rfl)) (fun _ _ _ h => h) (Or.inl ⟨by rfl, ?_⟩) ?_ ?_
      rotate_left
      ·intro w'
       go_simp
       with_reducible rfl
      rotate_left
      ·simp only [Act.put, List.setIfInBounds_toArray, List.set_cons_zero, List.set_cons_succ, i64_w, i32_w]
       rfl
      refine pure_ (i := 16) (N := some 23) (v := ?_) (a' := ?_) (bA 43 131071) rfl rfl (any_of HT_.out (by kernel_rfl)) (fun _ _ _ h => h) (Or.inl ⟨by rfl, ?_⟩) ?_ ?_
      rotate_left
      ·intro w'
       go_simp
       with_reducible rfl
      rotate_left
      ·simp only [Act.put, List.setIfInBounds_toArray, List.set_cons_zero, List.set_cons_succ, i64_w, i32_w]
       rfl
      refine take_ (i := 17) (N := some 24) (v := ?_) (a' := ?_) (bA 43 262143) rfl rfl (take_ofW HT_.out HW_.out (by kernel_rfl)) (fun _ _ _ h => h) (Or.inl ⟨by rfl, ?_⟩) hHeld ?_ ?_
      rotate_left
      ·rintro w' ⟨s0, s1, s2, s3, s4, s5, s6, s7⟩
       go_simp
       with_reducible rfl
      rotate_left
      ·simp only [Act.put, List.setIfInBounds_toArray, List.set_cons_zero, List.set_cons_succ, i64_w, i32_w]
       rfl
      refine take_ (i := 18) (N := some 25) (v := ?_) (a' := ?_) (bA 43 524287) rfl rfl (take_ofW HT_.out HW_.out (by kernel_rfl)) (fun _ _ _ h => h) (Or.inl ⟨by rfl, ?_⟩) hHeld ?_ ?_
      rotate_left
      ·rintro w' ⟨s0, s1, s2, s3, s4, s5, s6, s7⟩
       go_simp
       with_reducible rfl
      rotate_left
      ·simp only [Act.put, List.setIfInBounds_toArray, List.set_cons_zero, List.set_cons_succ, i64_w, i32_w]
       rfl
      refine take_ (i := 20) (N := some 27) (v := ?_) (a' := ?_) (bA 43 1572863) rfl rfl (take_ofW HT_.out HW_.out (by kernel_rfl)) (fun _ _ _ h => h) (Or.inl ⟨by rfl, ?_⟩) hHeld ?_ ?_
      rotate_left
      ·rintro w' ⟨s0, s1, s2, s3, s4, s5, s6, s7⟩
       go_simp
       with_reducible rfl
      rotate_left
      ·simp only [Act.put, List.setIfInBounds_toArray, List.set_cons_zero, List.set_cons_succ, i64_w, i32_w]
       rfl
      refine take_ (i := 21) (N := some 28) (v := ?_) (a' := ?_) (bA 43 3670015) rfl rfl (take_ofW HT_.out HW_.out (by kernel_rfl)) (fun _ _ _ h => h) (Or.inl ⟨by rfl, ?_⟩) hHeld ?_ ?_
      rotate_left
      ·rintro w' ⟨s0, s1, s2, s3, s4, s5, s6, s7⟩
       go_simp
       with_reducible rfl
      rotate_left
      ·simp only [Act.put, List.setIfInBounds_toArray, List.set_cons_zero, List.set_cons_succ, i64_w, i32_w]
       rfl
      refine one_ (i := 19) (N := some 26) (bA 43 4194303) rfl rfl (one_of HT_.out (by kernel_rfl)) (by decide) (fun K hK => ?_)
      refine goes_ Try.func22 (by kernel_rfl) rfl #[.agg #[.int .u64 a0_0, .int .u64 a0_1, .int .u64 a0_2, .int .u64 a0_3], .agg #[.int .u64 a1_0, .int .u64 a1_1, .int .u64 a1_2, .int .u64 a1_3]] (by rfl) rfl rfl (by (try simp only [List.map_toArray, List.map_cons, List.map_nil]); first | done | rfl | (simp only [List.length_drop, List.length_take]; rfl)) ?_
      with_reducible refine (limb_Cmp.calls k a0_0 a0_1 a0_2 a0_3 a1_0 a1_1 a1_2 a1_3 t275 _ A10.out).mono ?_
      rintro e w27 ⟨rfl, hb⟩
      refine ⟨_, rfl, ?_⟩
      have n0_ := Aside0.mk (bB (g := gb257) (o := .cells #[.int .u64 a0_0, .int .u64 a0_1, .int .u64 a0_2, .int .u64 a0_3] 26 (0, 0)) (by (with_reducible repeat (first | refine bN ?_ _ | refine bD ?_ | refine bL ?_ _)); exact BK257.out) hb)
      have n1_ := Aside0.mk (bB (g := gb258) (o := .cells #[.int .u64 a1_0, .int .u64 a1_1, .int .u64 a1_2, .int .u64 a1_3] 26 (0, 0)) (by (with_reducible repeat (first | refine bN ?_ _ | refine bD ?_ | refine bL ?_ _)); exact BK258.out) hb)
      have n2_ := Aside0.mk (below_step (by repeat (first | (with_reducible first | exact HB.out | apply below_alloc | apply pN | apply dI | refine below_set ?_ GE257.out | refine below_set ?_ GE258.out) | exact HB.out)) hb)
      clear BK257
      clear BK258
      clear HB
      have BK257 := n0_
      have BK258 := n1_
      have HB := n2_
      clear n0_ n1_ n2_
      (try clear hb)
      (try clear hb2)
      (try clear hk)
      (try clear hi)
      refine hK.out _ _ ⟨(bC BK257.out 0).trans rfl, (bC BK257.out 1).trans rfl, (bC BK257.out 2).trans rfl, (bC BK257.out 3).trans rfl, (bC BK258.out 0).trans rfl, (bC BK258.out 1).trans rfl, (bC BK258.out 2).trans rfl, (bC BK258.out 3).trans rfl⟩ (fun hHeld => ?_)
      clear hK K
      refine norm_ (a' := ?_) ?_ ?_
      rotate_left
      ·show Act.put _ (some 26) _ = _
       simp only [Act.put, List.setIfInBounds_toArray, List.set_cons_zero, List.set_cons_succ, i64_w, i32_w]
       rfl
      refine one_ (i := 22) (N := some 29) (bA 43 8388607) rfl rfl (one_of HT_.out (by kernel_rfl)) (by decide) (fun K hK => ?_)
      refine goes_ Try.func27 (by kernel_rfl) rfl #[.agg #[.int .u64 a0_0, .int .u64 a0_1, .int .u64 a0_2, .int .u64 a0_3], .agg #[.int .u64 a1_0, .int .u64 a1_1, .int .u64 a1_2, .int .u64 a1_3]] (by rfl) rfl rfl (by (try simp only [List.map_toArray, List.map_cons, List.map_nil]); first | done | rfl | (simp only [List.length_drop, List.length_take]; rfl)) ?_
      with_reducible refine (perigeeref1_CmpFour.calls k a0_0 a0_1 a0_2 a0_3 a1_0 a1_1 a1_2 a1_3 t276 _ A11.out).mono ?_
      rintro e w28 ⟨rfl, hb⟩
      refine ⟨_, rfl, ?_⟩
      have n0_ := Aside0.mk (bB (g := gb257) (o := .cells #[.int .u64 a0_0, .int .u64 a0_1, .int .u64 a0_2, .int .u64 a0_3] 26 (0, 0)) (by (with_reducible repeat (first | refine bN ?_ _ | refine bD ?_ | refine bL ?_ _)); exact BK257.out) hb)
      have n1_ := Aside0.mk (bB (g := gb258) (o := .cells #[.int .u64 a1_0, .int .u64 a1_1, .int .u64 a1_2, .int .u64 a1_3] 26 (0, 0)) (by (with_reducible repeat (first | refine bN ?_ _ | refine bD ?_ | refine bL ?_ _)); exact BK258.out) hb)
      have n2_ := Aside0.mk (below_step (by repeat (first | (with_reducible first | exact HB.out | apply below_alloc | apply pN | apply dI | refine below_set ?_ GE257.out | refine below_set ?_ GE258.out) | exact HB.out)) hb)
      clear BK257
      clear BK258
      clear HB
      have BK257 := n0_
      have BK258 := n1_
      have HB := n2_
      clear n0_ n1_ n2_
      (try clear hb)
      (try clear hb2)
      (try clear hk)
      (try clear hi)
      refine hK.out _ _ ⟨(bC BK257.out 0).trans rfl, (bC BK257.out 1).trans rfl, (bC BK257.out 2).trans rfl, (bC BK257.out 3).trans rfl, (bC BK258.out 0).trans rfl, (bC BK258.out 1).trans rfl, (bC BK258.out 2).trans rfl, (bC BK258.out 3).trans rfl⟩ (fun hHeld => ?_)
      clear hK K
      refine norm_ (a' := ?_) ?_ ?_
      rotate_left
      ·show Act.put _ (some 29) _ = _
       simp only [Act.put, List.setIfInBounds_toArray, List.set_cons_zero, List.set_cons_succ, i64_w, i32_w]
       rfl
      refine pure_ (i := 23) (N := some 30) (v := ?_) (a' := ?_) (bA 43 16777215) rfl rfl (any_of HT_.out (by kernel_rfl)) (fun _ _ _ h => h) (Or.inl ⟨by rfl, ?_⟩) ?_ ?_
      rotate_left
      ·intro w'
       go_simp
       with_reducible rfl
      rotate_left
      ·simp only [Act.put, List.setIfInBounds_toArray, List.set_cons_zero, List.set_cons_succ, i64_w, i32_w]
       rfl
      refine pure_ (i := 24) (N := some 31) (v := ?_) (a' := ?_) (bA 43 33554431) rfl rfl (any_of HT_.out (by kernel_rfl)) (fun _ _ _ h => h) (Or.inl ⟨by rfl, ?_⟩) ?_ ?_
      rotate_left
      ·intro w'
       go_simp
       with_reducible rfl
      rotate_left
      ·simp only [Act.put, List.setIfInBounds_toArray, List.set_cons_zero, List.set_cons_succ, i64_w, i32_w]
       rfl
      refine pure_ (i := 25) (N := some 32) (v := ?_) (a' := ?_) (bA 43 67108863) rfl rfl (any_of HT_.out (by kernel_rfl)) (fun _ _ _ h => h) (Or.inl ⟨by rfl, ?_⟩) ?_ ?_
      rotate_left
      ·intro w'
       go_simp
       with_reducible rfl
      rotate_left
      ·simp only [Act.put, List.setIfInBounds_toArray, List.set_cons_zero, List.set_cons_succ, i64_w, i32_w]
       rfl
      refine take_ (i := 26) (N := some 33) (v := ?_) (a' := ?_) (bA 43 134217727) rfl rfl (take_ofW HT_.out HW_.out (by kernel_rfl)) (fun _ _ _ h => h) (Or.inl ⟨by rfl, ?_⟩) hHeld ?_ ?_
      rotate_left
      ·rintro w' ⟨s0, s1, s2, s3, s4, s5, s6, s7⟩
       go_simp
       with_reducible rfl
      rotate_left
      ·simp only [Act.put, List.setIfInBounds_toArray, List.set_cons_zero, List.set_cons_succ, i64_w, i32_w]
       rfl
      refine take_ (i := 28) (N := some 35) (v := ?_) (a' := ?_) (bA 43 402653183) rfl rfl (take_ofW HT_.out HW_.out (by kernel_rfl)) (fun _ _ _ h => h) (Or.inl ⟨by rfl, ?_⟩) hHeld ?_ ?_
      rotate_left
      ·rintro w' ⟨s0, s1, s2, s3, s4, s5, s6, s7⟩
       go_simp
       with_reducible rfl
      rotate_left
      ·simp only [Act.put, List.setIfInBounds_toArray, List.set_cons_zero, List.set_cons_succ, i64_w, i32_w]
       rfl
      refine one_ (i := 27) (N := some 34) (bA 43 536870911) rfl rfl (one_of HT_.out (by kernel_rfl)) (by decide) (fun K hK => ?_)
      refine goes_ Try.func28 (by kernel_rfl) rfl #[.agg #[.int .u64 a0_0, .int .u64 a0_1, .int .u64 a0_2, .int .u64 a0_3]] (by rfl) rfl rfl (by (try simp only [List.map_toArray, List.map_cons, List.map_nil]); first | done | rfl | (simp only [List.length_drop, List.length_take]; rfl)) ?_
      with_reducible refine (limb_Len.calls a0_0 a0_1 a0_2 a0_3 t277 _ A13.out).mono ?_
      rintro e w29 ⟨rfl, hb⟩
      refine ⟨_, rfl, ?_⟩
      have n0_ := Aside0.mk (bB (g := gb257) (o := .cells #[.int .u64 a0_0, .int .u64 a0_1, .int .u64 a0_2, .int .u64 a0_3] 26 (0, 0)) (by (with_reducible repeat (first | refine bN ?_ _ | refine bD ?_ | refine bL ?_ _)); exact BK257.out) hb)
      have n1_ := Aside0.mk (bB (g := gb258) (o := .cells #[.int .u64 a1_0, .int .u64 a1_1, .int .u64 a1_2, .int .u64 a1_3] 26 (0, 0)) (by (with_reducible repeat (first | refine bN ?_ _ | refine bD ?_ | refine bL ?_ _)); exact BK258.out) hb)
      have n2_ := Aside0.mk (below_step (by repeat (first | (with_reducible first | exact HB.out | apply below_alloc | apply pN | apply dI | refine below_set ?_ GE257.out | refine below_set ?_ GE258.out) | exact HB.out)) hb)
      clear BK257
      clear BK258
      clear HB
      have BK257 := n0_
      have BK258 := n1_
      have HB := n2_
      clear n0_ n1_ n2_
      (try clear hb)
      (try clear hb2)
      (try clear hk)
      (try clear hi)
      refine hK.out _ _ ⟨(bC BK257.out 0).trans rfl, (bC BK257.out 1).trans rfl, (bC BK257.out 2).trans rfl, (bC BK257.out 3).trans rfl, (bC BK258.out 0).trans rfl, (bC BK258.out 1).trans rfl, (bC BK258.out 2).trans rfl, (bC BK258.out 3).trans rfl⟩ (fun hHeld => ?_)
      clear hK K
      refine norm_ (a' := ?_) ?_ ?_
      rotate_left
      ·show Act.put _ (some 34) _ = _
       simp only [Act.put, List.setIfInBounds_toArray, List.set_cons_zero, List.set_cons_succ, i64_w, i32_w]
       rfl
      refine one_ (i := 29) (N := some 36) (bA 43 1073741823) rfl rfl (one_of HT_.out (by kernel_rfl)) (by decide) (fun K hK => ?_)
      refine goes_ Try.func29 (by kernel_rfl) rfl #[.agg #[.int .u64 a0_0, .int .u64 a0_1, .int .u64 a0_2, .int .u64 a0_3]] (by rfl) rfl rfl (by (try simp only [List.map_toArray, List.map_cons, List.map_nil]); first | done | rfl | (simp only [List.length_drop, List.length_take]; rfl)) ?_
      with_reducible refine (perigeeref1_Len.calls k a0_0 a0_1 a0_2 a0_3 t278 _ A14.out).mono ?_
      rintro e w30 ⟨rfl, hb⟩
      refine ⟨_, rfl, ?_⟩
      have n0_ := Aside0.mk (bB (g := gb257) (o := .cells #[.int .u64 a0_0, .int .u64 a0_1, .int .u64 a0_2, .int .u64 a0_3] 26 (0, 0)) (by (with_reducible repeat (first | refine bN ?_ _ | refine bD ?_ | refine bL ?_ _)); exact BK257.out) hb)
      have n1_ := Aside0.mk (bB (g := gb258) (o := .cells #[.int .u64 a1_0, .int .u64 a1_1, .int .u64 a1_2, .int .u64 a1_3] 26 (0, 0)) (by (with_reducible repeat (first | refine bN ?_ _ | refine bD ?_ | refine bL ?_ _)); exact BK258.out) hb)
      have n2_ := Aside0.mk (below_step (by repeat (first | (with_reducible first | exact HB.out | apply below_alloc | apply pN | apply dI | refine below_set ?_ GE257.out | refine below_set ?_ GE258.out) | exact HB.out)) hb)
      clear BK257
      clear BK258
      clear HB
      have BK257 := n0_
      have BK258 := n1_
      have HB := n2_
      clear n0_ n1_ n2_
      (try clear hb)
      (try clear hb2)
      (try clear hk)
      (try clear hi)
      refine hK.out _ _ ⟨(bC BK257.out 0).trans rfl, (bC BK257.out 1).trans rfl, (bC BK257.out 2).trans rfl, (bC BK257.out 3).trans rfl, (bC BK258.out 0).trans rfl, (bC BK258.out 1).trans rfl, (bC BK258.out 2).trans rfl, (bC BK258.out 3).trans rfl⟩ (fun hHeld => ?_)
      clear hK K
      refine norm_ (a' := ?_) ?_ ?_
      rotate_left
      ·show Act.put _ (some 36) _ = _
       simp only [Act.put, List.setIfInBounds_toArray, List.set_cons_zero, List.set_cons_succ, i64_w, i32_w]
       rfl
      refine pure_ (i := 30) (N := some 37) (v := ?_) (a' := ?_) (bA 43 2147483647) rfl rfl (any_of HT_.out (by kernel_rfl)) (fun _ _ _ h => h) (Or.inl ⟨by rfl, ?_⟩) ?_ ?_
      rotate_left
      ·intro w'
       go_simp
       with_reducible rfl
      rotate_left
      ·simp only [Act.put, List.setIfInBounds_toArray, List.set_cons_zero, List.set_cons_succ, i64_w, i32_w]
       rfl
      refine pure_ (i := 31) (N := some 38) (v := ?_) (a' := ?_) (bA 43 4294967295) rfl rfl (any_of HT_.out (by kernel_rfl)) (fun _ _ _ h => h) (Or.inl ⟨by rfl, ?_⟩) ?_ ?_
      rotate_left
      ·intro w'
       go_simp
       with_reducible rfl
      rotate_left
      ·simp only [Act.put, List.setIfInBounds_toArray, List.set_cons_zero, List.set_cons_succ, i64_w, i32_w]
       rfl
      refine pure_ (i := 32) (N := some 39) (v := ?_) (a' := ?_) (bA 43 8589934591) rfl rfl (any_of HT_.out (by kernel_rfl)) (fun _ _ _ h => h) (Or.inl ⟨by rfl, ?_⟩) ?_ ?_
      rotate_left
      ·intro w'
       go_simp
       with_reducible rfl
      rotate_left
      ·simp only [Act.put, List.setIfInBounds_toArray, List.set_cons_zero, List.set_cons_succ, i64_w, i32_w]
       rfl
      refine take_ (i := 33) (N := some 40) (v := ?_) (a' := ?_) (bA 43 17179869183) rfl rfl (take_ofW HT_.out HW_.out (by kernel_rfl)) (fun _ _ _ h => h) (Or.inl ⟨by rfl, ?_⟩) hHeld ?_ ?_
      rotate_left
      ·rintro w' ⟨s0, s1, s2, s3, s4, s5, s6, s7⟩
       go_simp
       with_reducible rfl
      rotate_left
      ·simp only [Act.put, List.setIfInBounds_toArray, List.set_cons_zero, List.set_cons_succ, i64_w, i32_w]
       rfl
      refine take_ (i := 35) (N := some 42) (v := ?_) (a' := ?_) (bA 43 51539607551) rfl rfl (take_ofW HT_.out HW_.out (by kernel_rfl)) (fun _ _ _ h => h) (Or.inl ⟨by rfl, ?_⟩) hHeld ?_ ?_
      rotate_left
      ·rintro w' ⟨s0, s1, s2, s3, s4, s5, s6, s7⟩
       go_simp
       with_reducible rfl
      rotate_left
      ·simp only [Act.put, List.setIfInBounds_toArray, List.set_cons_zero, List.set_cons_succ, i64_w, i32_w]
       rfl
      refine one_ (i := 34) (N := some 41) (bA 43 68719476735) rfl rfl (one_of HT_.out (by kernel_rfl)) (by decide) (fun K hK => ?_)
      refine goes_ Try.func21 (by kernel_rfl) rfl #[.agg #[.int .u64 a0_0, .int .u64 a0_1, .int .u64 a0_2, .int .u64 a0_3]] (by rfl) rfl rfl (by (try simp only [List.map_toArray, List.map_cons, List.map_nil]); first | done | rfl | (simp only [List.length_drop, List.length_take]; rfl)) ?_
      with_reducible refine (limb_Sqrt.calls k a0_0 a0_1 a0_2 a0_3 t279 t280 _ A16.out).mono ?_
      rintro e w31 ⟨rfl, hb⟩
      refine ⟨_, rfl, ?_⟩
      have n0_ := Aside0.mk (bB (g := gb257) (o := .cells #[.int .u64 a0_0, .int .u64 a0_1, .int .u64 a0_2, .int .u64 a0_3] 26 (0, 0)) (by (with_reducible repeat (first | refine bN ?_ _ | refine bD ?_ | refine bL ?_ _)); exact BK257.out) hb)
      have n1_ := Aside0.mk (bB (g := gb258) (o := .cells #[.int .u64 a1_0, .int .u64 a1_1, .int .u64 a1_2, .int .u64 a1_3] 26 (0, 0)) (by (with_reducible repeat (first | refine bN ?_ _ | refine bD ?_ | refine bL ?_ _)); exact BK258.out) hb)
      have n2_ := Aside0.mk (below_step (by repeat (first | (with_reducible first | exact HB.out | apply below_alloc | apply pN | apply dI | refine below_set ?_ GE257.out | refine below_set ?_ GE258.out) | exact HB.out)) hb)
      clear BK257
      clear BK258
      clear HB
      have BK257 := n0_
      have BK258 := n1_
      have HB := n2_
      clear n0_ n1_ n2_
      (try clear hb)
      (try clear hb2)
      (try clear hk)
      (try clear hi)
      refine hK.out _ _ ⟨(bC BK257.out 0).trans rfl, (bC BK257.out 1).trans rfl, (bC BK257.out 2).trans rfl, (bC BK257.out 3).trans rfl, (bC BK258.out 0).trans rfl, (bC BK258.out 1).trans rfl, (bC BK258.out 2).trans rfl, (bC BK258.out 3).trans rfl⟩ (fun hHeld => ?_)
      clear hK K
      refine norm_ (a' := ?_) ?_ ?_
      rotate_left
      ·show Act.put _ (some 41) _ = _
       simp only [Act.put, List.setIfInBounds_toArray, List.set_cons_zero, List.set_cons_succ, i64_w, i32_w]
       rfl
      refine one_ (i := 36) (N := some 43) (bA 43 137438953471) rfl rfl (one_of HT_.out (by kernel_rfl)) (by decide) (fun K hK => ?_)
      refine goes_ Try.func30 (by kernel_rfl) rfl #[.agg #[.int .u64 a0_0, .int .u64 a0_1, .int .u64 a0_2, .int .u64 a0_3]] (by rfl) rfl rfl (by (try simp only [List.map_toArray, List.map_cons, List.map_nil]); first | done | rfl | (simp only [List.length_drop, List.length_take]; rfl)) ?_
      with_reducible refine (perigeeref1_Root.calls k a0_0 a0_1 a0_2 a0_3 t281 t282 _ A17.out).mono ?_
      rintro e w32 ⟨rfl, hb⟩
      refine ⟨_, rfl, ?_⟩
      have n0_ := Aside0.mk (bB (g := gb257) (o := .cells #[.int .u64 a0_0, .int .u64 a0_1, .int .u64 a0_2, .int .u64 a0_3] 26 (0, 0)) (by (with_reducible repeat (first | refine bN ?_ _ | refine bD ?_ | refine bL ?_ _)); exact BK257.out) hb)
      have n1_ := Aside0.mk (bB (g := gb258) (o := .cells #[.int .u64 a1_0, .int .u64 a1_1, .int .u64 a1_2, .int .u64 a1_3] 26 (0, 0)) (by (with_reducible repeat (first | refine bN ?_ _ | refine bD ?_ | refine bL ?_ _)); exact BK258.out) hb)
      have n2_ := Aside0.mk (below_step (by repeat (first | (with_reducible first | exact HB.out | apply below_alloc | apply pN | apply dI | refine below_set ?_ GE257.out | refine below_set ?_ GE258.out) | exact HB.out)) hb)
      clear BK257
      clear BK258
      clear HB
      have BK257 := n0_
      have BK258 := n1_
      have HB := n2_
      clear n0_ n1_ n2_
      (try clear hb)
      (try clear hb2)
      (try clear hk)
      (try clear hi)
      refine hK.out _ _ ⟨(bC BK257.out 0).trans rfl, (bC BK257.out 1).trans rfl, (bC BK257.out 2).trans rfl, (bC BK257.out 3).trans rfl, (bC BK258.out 0).trans rfl, (bC BK258.out 1).trans rfl, (bC BK258.out 2).trans rfl, (bC BK258.out 3).trans rfl⟩ (fun hHeld => ?_)
      clear hK K
      refine norm_ (a' := ?_) ?_ ?_
      rotate_left
      ·show Act.put _ (some 43) _ = _
       simp only [Act.put, List.setIfInBounds_toArray, List.set_cons_zero, List.set_cons_succ, i64_w, i32_w]
       rfl
      refine pure_ (i := 37) (N := some 44) (v := ?_) (a' := ?_) (bA 43 274877906943) rfl rfl (any_of HT_.out (by kernel_rfl)) (fun _ _ _ h => h) (Or.inl ⟨by rfl, ?_⟩) ?_ ?_
      rotate_left
      ·intro w'
       go_simp
       with_reducible rfl
      rotate_left
      ·simp only [Act.put, List.setIfInBounds_toArray, List.set_cons_zero, List.set_cons_succ, i64_w, i32_w]
       rfl
      refine pure_ (i := 38) (N := some 45) (v := ?_) (a' := ?_) (bA 43 549755813887) rfl rfl (any_of HT_.out (by kernel_rfl)) (fun _ _ _ h => h) (Or.inl ⟨by rfl, ?_⟩) ?_ ?_
      rotate_left
      ·intro w'
       go_simp
       with_reducible rfl
      rotate_left
      ·simp only [Act.put, List.setIfInBounds_toArray, List.set_cons_zero, List.set_cons_succ, i64_w, i32_w]
       rfl
      refine pure_ (i := 39) (N := some 46) (v := ?_) (a' := ?_) (bA 43 1099511627775) rfl rfl (any_of HT_.out (by kernel_rfl)) (fun _ _ _ h => h) (Or.inl ⟨by rfl, ?_⟩) ?_ ?_
      rotate_left
      ·intro w'
       go_simp
       with_reducible rfl
      rotate_left
      ·simp only [Act.put, List.setIfInBounds_toArray, List.set_cons_zero, List.set_cons_succ, i64_w, i32_w]
       rfl
      refine one_ (i := 40) (N := some 47) (bA 43 2199023255551) rfl rfl (one_of HT_.out (by kernel_rfl)) (by decide) (fun K hK => ?_)
      refine goes_ Try.func16 (by kernel_rfl) rfl #[] (by rfl) rfl rfl (by (try simp only [List.map_toArray, List.map_cons, List.map_nil]); first | done | rfl | (simp only [List.length_drop, List.length_take]; rfl)) ?_
      with_reducible refine (perigeelaw1_awake.calls k  t283 _ A19.out).mono ?_
      rintro e w33 ⟨rfl, hb⟩
      refine ⟨_, rfl, ?_⟩
      have n0_ := Aside0.mk (bB (g := gb257) (o := .cells #[.int .u64 a0_0, .int .u64 a0_1, .int .u64 a0_2, .int .u64 a0_3] 26 (0, 0)) (by (with_reducible repeat (first | refine bN ?_ _ | refine bD ?_ | refine bL ?_ _)); exact BK257.out) hb)
      have n1_ := Aside0.mk (bB (g := gb258) (o := .cells #[.int .u64 a1_0, .int .u64 a1_1, .int .u64 a1_2, .int .u64 a1_3] 26 (0, 0)) (by (with_reducible repeat (first | refine bN ?_ _ | refine bD ?_ | refine bL ?_ _)); exact BK258.out) hb)
      have n2_ := Aside0.mk (below_step (by repeat (first | (with_reducible first | exact HB.out | apply below_alloc | apply pN | apply dI | refine below_set ?_ GE257.out | refine below_set ?_ GE258.out) | exact HB.out)) hb)
      clear BK257
      clear BK258
      clear HB
      have BK257 := n0_
      have BK258 := n1_
      have HB := n2_
      clear n0_ n1_ n2_
      (try clear hb)
      (try clear hb2)
      (try clear hk)
      (try clear hi)
      refine hK.out _ _ ⟨(bC BK257.out 0).trans rfl, (bC BK257.out 1).trans rfl, (bC BK257.out 2).trans rfl, (bC BK257.out 3).trans rfl, (bC BK258.out 0).trans rfl, (bC BK258.out 1).trans rfl, (bC BK258.out 2).trans rfl, (bC BK258.out 3).trans rfl⟩ (fun hHeld => ?_)
      clear hK K
      refine norm_ (a' := ?_) ?_ ?_
      rotate_left
      ·show Act.put _ (some 47) _ = _
       simp only [Act.put, List.setIfInBounds_toArray, List.set_cons_zero, List.set_cons_succ, i64_w, i32_w]
       rfl
      refine pure_ (i := 41) (N := some 48) (v := ?_) (a' := ?_) (bA 43 4398046511103) rfl rfl (any_of HT_.out (by kernel_rfl)) (fun _ _ _ h => h) (Or.inl ⟨by rfl, ?_⟩) ?_ ?_
      rotate_left
      ·intro w'
       go_simp
       with_reducible rfl
      rotate_left
      ·simp only [Act.put, List.setIfInBounds_toArray, List.set_cons_zero, List.set_cons_succ, i64_w, i32_w]
       rfl
      refine pure_ (i := 42) (N := some 6) (v := ?_) (a' := ?_) (bA 43 8796093022207) rfl rfl (any_of HT_.out (by kernel_rfl)) (fun _ _ _ h => h) (Or.inl ⟨by rfl, ?_⟩) ?_ ?_
      rotate_left
      ·intro w'
       go_simp
       with_reducible rfl
      rotate_left
      ·simp only [Act.put, List.setIfInBounds_toArray, List.set_cons_zero, List.set_cons_succ, i64_w, i32_w]
       rfl
      refine done_ (done_of HT_.out (by kernel_rfl)) ?_
      try go_wp2
      go_ret
      exact ⟨by first | rfl | (simp [errW_none, errW_some] <;> rfl) | (simp [*, errW_none, errW_some] <;> rfl), by repeat (first | (with_reducible first | exact HB.out | apply below_alloc | apply pN | apply dI | refine below_set ?_ GE257.out | refine below_set ?_ GE258.out) | exact HB.out)⟩
     ·rw [if_neg c18] at H
      exact absurd H (by simp)
    ·rw [if_neg c15] at H
     exact absurd H (by simp)
   ·rw [if_neg c12] at H
    exact absurd H (by simp)
  ·rw [if_neg c9] at H
   exact absurd H (by simp)
 ·rw [if_neg c6] at H
  exact absurd H (by simp)

/-- THE ONE PURE STATEMENT of perigeelaw1_LimbShifts: yours. -/
def perigeelaw1_LimbShifts.Pure : Prop := ∀ (a0_0 : Int) (a0_1 : Int) (a0_2 : Int) (a0_3 : Int) (a1_0 : Int) (a1_1 : Int) (a1_2 : Int) (a1_3 : Int) (a2 : Int), (Lit.int .u64 a0_0).wf = true → (Lit.int .u64 a0_1).wf = true → (Lit.int .u64 a0_2).wf = true → (Lit.int .u64 a0_3).wf = true → (Lit.int .u64 a1_0).wf = true → (Lit.int .u64 a1_1).wf = true → (Lit.int .u64 a1_2).wf = true → (Lit.int .u64 a1_3).wf = true → (Lit.int .i64 a2).wf = true → ∃ k, perigeelaw1_LimbShifts.f k a0_0 a0_1 a0_2 a0_3 a1_0 a1_1 a1_2 a1_3 a2 = some true
theorem perigeelaw1_LimbShifts.walk (P : perigeelaw1_LimbShifts.Pure) (a0_0 : Int) (a0_1 : Int) (a0_2 : Int) (a0_3 : Int) (a1_0 : Int) (a1_1 : Int) (a1_2 : Int) (a1_3 : Int) (a2 : Int) (w : World) (w0_0 : (Lit.int .u64 a0_0).wf = true) (w0_1 : (Lit.int .u64 a0_1).wf = true) (w0_2 : (Lit.int .u64 a0_2).wf = true) (w0_3 : (Lit.int .u64 a0_3).wf = true) (w1_0 : (Lit.int .u64 a1_0).wf = true) (w1_1 : (Lit.int .u64 a1_1).wf = true) (w1_2 : (Lit.int .u64 a1_2).wf = true) (w1_3 : (Lit.int .u64 a1_3).wf = true) (w2 : (Lit.int .i64 a2).wf = true) :
  Calls Try.prog 10 #[.agg #[.int .u64 a0_0, .int .u64 a0_1, .int .u64 a0_2, .int .u64 a0_3], .agg #[.int .u64 a1_0, .int .u64 a1_1, .int .u64 a1_2, .int .u64 a1_3], .int .i64 a2] w fun e w' => e = .returned (.bool true) ∧ Below w.heap.size w w' := by
 obtain ⟨k, h⟩ := P a0_0 a0_1 a0_2 a0_3 a1_0 a1_1 a1_2 a1_3 a2 w0_0 w0_1 w0_2 w0_3 w1_0 w1_1 w1_2 w1_3 w2
 refine (perigeelaw1_LimbShifts.calls k a0_0 a0_1 a0_2 a0_3 a1_0 a1_1 a1_2 a1_3 a2 true w h).mono ?_
 rintro e w' ⟨rfl, hd⟩
 exact ⟨rfl, hd⟩

end Go.Proofs.Ytlpdongckcaclaa.S
