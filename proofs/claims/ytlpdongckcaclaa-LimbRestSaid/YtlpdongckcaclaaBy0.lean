/- Functions of the translation as plain Lean functions, and their walks: written by a program of this session's on the kit's print, for this seat. -/
import Derived.Test.YtlpdongckcaclaaBx0
import Derived.Test.YtlpdongckcaclaaBx1
import Derived.Test.YtlpdongckcaclaaBx2
import Derived.Test.YtlpdongckcaclaaBx4
namespace Go.Proofs.Ytlpdongckcaclaa.B
open Go.RowKit Go.Proofs.Ytlpdongckcaclaa.Limb Go.Proofs.Ytlpdongckcaclaa.Plain Go.Proofs.YtlpdongckcaclaaW.PrintWords Go.Proofs.YtlpdongckcaclaaW.PrintLast Go.Proofs.YtlpdongckcaclaaW.PrintMore
attribute [local go_sem] max2_int min2_int max_two min_two max_three min_three max_four min_four   -- for this text's walks alone
set_option linter.unusedVariables false
set_option linter.unusedSimpArgs false

attribute [local go_sem high] eqA24 eqA26
/-! ### perigeelaw1_LimbRest: function 6 -/
def perigeelaw1_LimbRest.f (k : Nat) (a0_0 : Int) (a0_1 : Int) (a0_2 : Int) (a0_3 : Int) (a1_0 : Int) (a1_1 : Int) : Option (Bool) := (limb_Div.f a0_0 a0_1 a0_2 a0_3 a1_0 a1_1).bind fun bt137 => (if (a1_0 == 0 && (a1_1 == 0)) = true then (if bt137.2.2.2.2.2.2 = true then (none) else (if ((bt137.1 == 0 && (bt137.2.1 == 0)) && ((bt137.2.2.1 == 0 && (bt137.2.2.2.1 == 0)))) = true then (if (bt137.2.2.2.2.1 == 0 && (bt137.2.2.2.2.2.1 == 0)) = true then ((perigeelaw1_awake.f k).bind fun t146 => (some t146)) else (none)) else (none))) else ((limb_Mul.f bt137.2.2.1 bt137.2.2.2.1 a1_0 a1_1).bind fun bt147 => ((limb_Mul.f bt137.1 bt137.2.1 a1_0 a1_1).bind fun bt151 => ((limb_Add.f bt147.2.2.1 bt147.2.2.2 bt137.2.2.2.2.1 bt137.2.2.2.2.2.1).bind fun bt157 => ((limb_Add.f bt147.1 bt147.2.1 bt151.2.2.1 bt151.2.2.2).bind fun bt161 => (if bt157.2.2 = true then ((limb_Add.f bt161.1 bt161.2.1 0 1).bind fun bt165 => (if bt161.2.2 = true then ((limb_Sub.f bt137.2.2.2.2.1 bt137.2.2.2.2.2.1 a1_0 a1_1).bind fun bt169 => (if bt137.2.2.2.2.2.2 = true then (none) else (none))) else ((limb_Sub.f bt137.2.2.2.2.1 bt137.2.2.2.2.2.1 a1_0 a1_1).bind fun bt173 => (if bt137.2.2.2.2.2.2 = true then (if bt165.2.2 = true then (none) else (if (bt151.1 == 0 && (bt151.2.1 == 0)) = true then (if ((bt165.1 == a0_0 && (bt165.2.1 == a0_1)) && ((bt157.1 == a0_2 && (bt157.2.1 == a0_3)))) = true then (if bt173.2.2 = true then ((perigeelaw1_awake.f k).bind fun t177 => (some t177)) else (none)) else (none)) else (none))) else (none))))) else ((limb_Sub.f bt137.2.2.2.2.1 bt137.2.2.2.2.2.1 a1_0 a1_1).bind fun bt178 => (if bt137.2.2.2.2.2.2 = true then (if bt161.2.2 = true then (none) else (if (bt151.1 == 0 && (bt151.2.1 == 0)) = true then (if ((bt161.1 == a0_0 && (bt161.2.1 == a0_1)) && ((bt157.1 == a0_2 && (bt157.2.1 == a0_3)))) = true then (if bt178.2.2 = true then ((perigeelaw1_awake.f k).bind fun t182 => (some t182)) else (none)) else (none)) else (none))) else (none)))))))))
theorem perigeelaw1_LimbRest.mono : ∀ a0 a1 a2 a3 a4 a5 k, LeO (perigeelaw1_LimbRest.f k a0 a1 a2 a3 a4 a5) (perigeelaw1_LimbRest.f (k + 1) a0 a1 a2 a3 a4 a5) := by
  intro a0 a1 a2 a3 a4 a5 k
  unfold perigeelaw1_LimbRest.f
  repeat' first
      | (with_reducible exact perigeelaw1_awake.mono _)
      | (with_reducible exact LeO.refl _)
      | (with_reducible exact LeO.none _)
      | (with_reducible refine LeO.ite ?_ ?_)
      | (with_reducible refine LeO.bind ?_ (fun _ => ?_))
      | exact perigeelaw1_awake.mono _
      | exact LeO.none _
      | refine LeO.ite ?_ ?_
      | refine LeO.bind ?_ (fun _ => ?_)
def perigeelaw1_LimbRest.T4 : Bool × List (List Nat × List Nat) := (true, [([], []), ([0], [0]), ([], []), ([1, 2], [1, 2]), ([], []), ([4], [4]), ([], []), ([5, 6, 3], [5, 6]), ([], []), ([], []), ([8, 3, 7, 0, 1, 2, 3, 8, 9], [3, 8]), ([9, 7, 10, 0, 1, 2, 3, 4, 5, 6, 7, 8, 9, 10], [7, 9])])
def perigeelaw1_LimbRest.B4 : List Nat := [0, 1, 0, 7, 0, 16, 0, 127, 0, 0, 1023, 2047]
theorem perigeelaw1_LimbRest.tab4 : rtab .any (opsOf Try.f6 4) = perigeelaw1_LimbRest.T4 := by kernel_rfl
theorem perigeelaw1_LimbRest.bits4 : waitsOk perigeelaw1_LimbRest.T4.2 perigeelaw1_LimbRest.B4 = true := by kernel_rfl
end Go.Proofs.Ytlpdongckcaclaa.B
