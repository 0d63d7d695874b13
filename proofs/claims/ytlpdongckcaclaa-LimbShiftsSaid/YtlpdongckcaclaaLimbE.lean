/- The sum of two words as the document says it: what the code computes. -/
import Derived.Test.YtlpdongckcaclaaProg
import Derived.Below
import Derived.Deep.Draws
import Derived.Deep.AppendLies
import Derived.Maps.AppendAt
import Derived.OwnWalk
import Derived.Laws.BytesArg
import Derived.Laws.MakeOwn
import Derived.Laws.OwnMore
import Derived.Deep.OwnRows
import Derived.Tactics
import Derived.Lib.ConvBytes
import Derived.Laws.Slices
import Derived.WalkKit
import Derived.KernelRfl
import Derived.RowKit3
import Derived.Deep.LoopGhost
import Derived.Deep.QuietTactic
import Derived.BigQuiet
import Derived.WideLaws
import Derived.Deep.DeepCutAuto
import Derived.Deep.CutBlock
import Derived.Deep.RegionHeld3
import Derived.Laws.Rows
import Derived.Lib.AppendStr
import Derived.ArgAppend
import Derived.Laws.IdiomCopy
import Derived.OrdersHeld
import Derived.Laws.BitsLemmas
import Derived.RowKit
import Derived.Test.YtlpdongckcaclaaWWords
import Derived.Test.YtlpdongckcaclaaWLast
import Derived.Test.YtlpdongckcaclaaWTab
import Derived.Test.YtlpdongckcaclaaWFour
import Derived.Test.YtlpdongckcaclaaWQPut
import Derived.Test.YtlpdongckcaclaaWApart
import Derived.Test.YtlpdongckcaclaaWArr
import Derived.Test.YtlpdongckcaclaaWZeros
import Derived.Test.YtlpdongckcaclaaWFoot
import Derived.Test.YtlpdongckcaclaaWKept
import Derived.Test.YtlpdongckcaclaaWShare
import Derived.Test.YtlpdongckcaclaaWN
import Derived.Test.YtlpdongckcaclaaWFootNe
import Derived.Test.YtlpdongckcaclaaWAt
import Derived.Test.YtlpdongckcaclaaWEqStruct
import Derived.Test.YtlpdongckcaclaaWRepsOne
import Derived.Test.YtlpdongckcaclaaWInv
import Derived.Test.YtlpdongckcaclaaWInvWords
import Derived.Test.YtlpdongckcaclaaWGuard
import Derived.Test.YtlpdongckcaclaaWNEv
import Derived.Test.YtlpdongckcaclaaWMore
import Derived.Handy
import Derived.RegionTactic
import Derived.Laws.BitsAllLaws
import Derived.Laws.Externs
import Derived.Lib.Hide
import Derived.Shelf.Spec.BitsCarry
import Derived.Test.YtlpdongckcaclaaWide
import Derived.Test.YtlpdongckcaclaaLimbA
namespace Go.Proofs.Ytlpdongckcaclaa.Limb
open Go.RowKit Go.Proofs.YtlpdongckcaclaaW.PrintWords Go.Proofs.YtlpdongckcaclaaW.PrintLast Go.Proofs.YtlpdongckcaclaaW.PrintMore Go.Proofs.Ytlpdongckcaclaa.Plain
set_option linter.unusedVariables false
set_option linter.unusedSimpArgs false

def perigeeref1_AddTwo.f (a0_0 a0_1 a1_0 a1_1 : Int) : Option (Int × Int × Bool) := limb_Add.f a0_0 a0_1 a1_0 a1_1
theorem addtwo_words (a b c d : Nat) (la : a < 18446744073709551616) (lb : b < 18446744073709551616) (lc : c < 18446744073709551616) (ld : d < 18446744073709551616) :
    ((wrd 0 (val2 a b + val2 c d) : Nat) : Int) = IntKind.u64.wrap ((b : Int) + d) ∧ (decide (IntKind.u64.wrap ((b : Int) + d) < b) = true → ((wrd 1 (val2 a b + val2 c d) : Nat) : Int) = IntKind.u64.wrap (IntKind.u64.wrap ((a : Int) + c) + 1) ∧
      decide (340282366920938463463374607431768211456 ≤ val2 a b + val2 c d) = (decide (IntKind.u64.wrap ((a : Int) + c) < a) || (IntKind.u64.wrap (IntKind.u64.wrap ((a : Int) + c) + 1) == 0))) ∧
    (decide (IntKind.u64.wrap ((b : Int) + d) < b) = false → ((wrd 1 (val2 a b + val2 c d) : Nat) : Int) = IntKind.u64.wrap (IntKind.u64.wrap ((a : Int) + c) + 0) ∧ decide (340282366920938463463374607431768211456 ≤ val2 a b + val2 c d) = decide (IntKind.u64.wrap ((a : Int) + c) < a)) := by
  simp only [IntKind.wrap_u64]
  unfold val2 wrd
  simp only [Nat.reducePow, Nat.pow_zero, Nat.div_one]
  refine ⟨by omega, fun h => ⟨?_, ?_⟩, fun h => ⟨?_, ?_⟩⟩
  · have h := of_decide_eq_true h; omega
  · have h := of_decide_eq_true h
    rw [Bool.eq_iff_iff, Bool.or_eq_true, beq_iff_eq, decide_eq_true_eq, decide_eq_true_eq]; omega
  · have h := of_decide_eq_false h; omega
  · have h := of_decide_eq_false h
    rw [decide_eq_decide]; omega
set_option maxHeartbeats 4000000 in
theorem perigeeref1_AddTwo.calls (a0_0 a0_1 a1_0 a1_1 : Int) (r1 r2 : Int) (r3 : Bool) (w : World) (h : perigeeref1_AddTwo.f a0_0 a0_1 a1_0 a1_1 = some (r1, r2, r3)) :
    Calls Try.prog 19 #[.agg #[.int .u64 a0_0, .int .u64 a0_1], .agg #[.int .u64 a1_0, .int .u64 a1_1]] w fun e w' => e = .returned (.agg #[.int .u64 r1, .int .u64 r2, .bool r3]) ∧ Below w.heap.size w w' := by
  unfold perigeeref1_AddTwo.f limb_Add.f at h
  split at h
  · rename_i hb
    obtain ⟨b1, b2, b3, b4⟩ := hb
    obtain ⟨a, rfl, la⟩ := b1.nat
    obtain ⟨b, rfl, lb⟩ := b2.nat
    obtain ⟨c, rfl, lc⟩ := b3.nat
    obtain ⟨d, rfl, ld⟩ := b4.nat
    obtain ⟨z1, z2, z3⟩ := addtwo_words a b c d la lb lc ld
    have h3 : decide (340282366920938463463374607431768211456 ≤ val2 a b + val2 c d) = r3 := by
      simp only [n2, e2, Int.toNat_natCast, Option.some.injEq, Prod.mk.injEq] at h
      rw [← h.2.2]; congr
    simp only [n2, e2, Int.toNat_natCast, Option.some.injEq, Prod.mk.injEq] at h
    obtain ⟨h1, h2, _⟩ := h
    rw [h3] at z2 z3
    rw [h1] at z2 z3
    rw [h2] at z1
    clear la lb lc ld b1 b2 b3 b4 h1 h2 h3
    generalize hlo : IntKind.u64.wrap ((b : Int) + d) = lo at *
    generalize hhi : IntKind.u64.wrap ((a : Int) + c) = hi at *
    generalize hlt : decide (lo < (b : Int)) = lt at *
    generalize hov : decide (hi < (a : Int)) = ov at *
    generalize hh1 : IntKind.u64.wrap (hi + 1) = h1 at *
    generalize hh0 : IntKind.u64.wrap (hi + 0) = h0 at *
    have hh0' : IntKind.u64.wrap hi = h0 := by rw [← hh0, Int.add_zero]
    generalize hz : (h1 == 0) = z at *
    have Z1 := Go.Lib.hid z1
    have Z2 := Go.Lib.hid z2
    have Z3 := Go.Lib.hid z3
    clear z1 z2 z3
    have hu24 := Try.underlying24
    have hu38 := Try.underlying38
    cases lt
    · obtain ⟨y1, y2⟩ := Z3.out rfl
      have Y1 := Go.Lib.hid y1
      have Y2 := Go.Lib.hid y2
      clear y1 y2 Z2 Z3
      go_enter Try.func19, Try.ntmps19
      cases ov
      all_goals
        go_wp2
        rw [Y1.out, Z1.out, Y2.out]
        refine bodyPost_ret (v := .agg #[.int .u64 h0, .int .u64 lo, .bool _]) (by simp [results, Try.results19, go_sem]) rfl ⟨rfl, ?_⟩
        go_grown
    · obtain ⟨y1, y2⟩ := Z2.out rfl
      have Y1 := Go.Lib.hid y1
      have Y2 := Go.Lib.hid y2
      clear y1 y2 Z2 Z3
      go_enter Try.func19, Try.ntmps19
      cases ov <;> cases z
      all_goals
        go_wp2
        rw [Y1.out, Z1.out, Y2.out]
        refine bodyPost_ret (v := .agg #[.int .u64 h1, .int .u64 lo, .bool _]) (by simp [results, Try.results19, go_sem]) rfl ⟨rfl, ?_⟩
        go_grown
  · exact absurd h (by simp)

end Go.Proofs.Ytlpdongckcaclaa.Limb
