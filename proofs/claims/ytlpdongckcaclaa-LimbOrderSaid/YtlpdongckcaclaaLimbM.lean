/- The product of wide numbers: what the code computes. -/
import Derived.Test.YtlpdongckcaclaaProg
import Derived.Below
import Derived.Deep.Draws
import Derived.Deep.AppendLies
import Derived.Maps.AppendAt
import Derived.OwnWalk
import Derived.Laws.BytesArg
import Derived.Laws.MakeOwn
import Derived.Laws.OwnMore
import Derived.Deep.OwnRows
import Derived.Tactics
import Derived.Lib.ConvBytes
import Derived.Laws.Slices
import Derived.WalkKit
import Derived.KernelRfl
import Derived.RowKit3
import Derived.Deep.LoopGhost
import Derived.Deep.QuietTactic
import Derived.BigQuiet
import Derived.WideLaws
import Derived.Deep.DeepCutAuto
import Derived.Deep.CutBlock
import Derived.Deep.RegionHeld3
import Derived.Laws.Rows
import Derived.Lib.AppendStr
import Derived.ArgAppend
import Derived.Laws.IdiomCopy
import Derived.OrdersHeld
import Derived.Laws.BitsLemmas
import Derived.RowKit
import Derived.Handy
import Derived.RegionTactic
import Derived.Laws.BitsAllLaws
import Derived.Laws.Externs
import Derived.Lib.Hide
import Derived.Shelf.Spec.BitsCarry
import Derived.Test.YtlpdongckcaclaaWide
import Derived.Test.YtlpdongckcaclaaLimbA
import Derived.Test.YtlpdongckcaclaaShelf
namespace Go.Proofs.Ytlpdongckcaclaa.Limb
open Go.RowKit Go.Proofs.Ytlpdongckcaclaa.Plain
set_option linter.unusedVariables false
set_option linter.unusedSimpArgs false

def sumW (x y : Int) : Int := (x + y) % 18446744073709551616
def carW (x y : Int) : Int := (x + y) / 18446744073709551616
def hiW (x y : Nat) : Int := ((x * y / 18446744073709551616 : Nat) : Int)
def loW (x y : Nat) : Int := ((x * y % 18446744073709551616 : Nat) : Int)
theorem sumW_0 (x y : Int) : 0 ≤ sumW x y := Int.emod_nonneg _ (by decide)
theorem loW_0 (x y : Nat) : 0 ≤ loW x y := Int.natCast_nonneg _
theorem sumW_run (x y : Int) (w : World) (hx : 0 ≤ x) (hy : 0 ≤ y) : (callFunc 38 #[.int .u64 x, .int .u64 y, .int .u64 0]).run Try.prog w = .ok (.value (.tuple #[.int .u64 (sumW x y), .int .u64 (carW x y)])) w := by
  rw [add64_run x y 0 hx hy (by decide) (by decide), Int.add_zero]; rfl
theorem mul64_calls (x y : Nat) (hx : x < 18446744073709551616) (hy : y < 18446744073709551616) (w : World) :
    Calls Try.prog 37 #[.int .u64 x, .int .u64 y] w fun e w' => e = .returned (.tuple #[.int .u64 (hiW x y), .int .u64 (loW x y)]) ∧ w = w' :=
  (Try.bits_Mul64 x y hx hy w).mono fun _ _ ⟨h1, h2⟩ => ⟨h1, h2.symm⟩
def limb_Mul.f (a0_0 a0_1 a1_0 a1_1 : Int) : Option (Int × Int × Int × Int) :=
  if Wd a0_0 ∧ Wd a0_1 ∧ Wd a1_0 ∧ Wd a1_1 then some (e4 (n2 a0_0 a0_1 * n2 a1_0 a1_1)) else none
/-- the word and the carry of a step -/
def stepO (p k o : Nat) : Nat := (p + k + o) % 18446744073709551616
def stepK (p k o : Nat) : Nat := (p + k + o) / 18446744073709551616
theorem step_int (x y : Nat) (k o : Nat) (hx : x < 18446744073709551616) (hy : y < 18446744073709551616) (hk : k < 18446744073709551616) (ho : o < 18446744073709551616) :
    sumW (o : Int) (sumW (loW x y) (k : Int)) = ((stepO (x * y) k o : Nat) : Int) ∧
    IntKind.u64.wrap (IntKind.u64.wrap (hiW x y + carW (loW x y) (k : Int)) + carW (o : Int) (sumW (loW x y) (k : Int))) = ((stepK (x * y) k o : Nat) : Int) ∧ stepO (x * y) k o < 18446744073709551616 ∧ stepK (x * y) k o < 18446744073709551616 := by
  obtain ⟨h1, h2, h3⟩ := mul_step (x * y) k o (prod_le hx hy) hk ho
  have e1 : sumW (loW x y) (k : Int) = (((x * y % 18446744073709551616 + k) % 18446744073709551616 : Nat) : Int) := by unfold sumW loW; omega
  have e2 : carW (loW x y) (k : Int) = (((x * y % 18446744073709551616 + k) / 18446744073709551616 : Nat) : Int) := by unfold carW loW; omega
  refine ⟨?_, ?_, Nat.mod_lt _ (by decide), h3⟩
  · rw [e1]; unfold sumW stepO; omega
  · rw [e1, e2, IntKind.wrap_u64, IntKind.wrap_u64]; unfold carW stepK hiW; omega
theorem mul_words (a b c d : Nat) (ha : a < 18446744073709551616) (hb : b < 18446744073709551616) (hc : c < 18446744073709551616) (hd : d < 18446744073709551616) :
    val4 (stepK (a * c) (stepK (a * d) 0 (stepO (b * c) (stepK (b * d) 0 0) 0)) (stepK (b * c) (stepK (b * d) 0 0) 0))
      (stepO (a * c) (stepK (a * d) 0 (stepO (b * c) (stepK (b * d) 0 0) 0)) (stepK (b * c) (stepK (b * d) 0 0) 0))
      (stepO (a * d) 0 (stepO (b * c) (stepK (b * d) 0 0) 0)) (stepO (b * d) 0 0) = val2 a b * val2 c d := by
  rw [val2_mul]
  have h1 := prod_le ha hc
  have h2 := prod_le ha hd
  have h3 := prod_le hb hc
  have h4 := prod_le hb hd
  generalize a * c = p at *
  generalize a * d = q at *
  generalize b * c = r at *
  generalize b * d = t at *
  unfold val4 stepK stepO
  omega
set_option maxHeartbeats 8000000 in
theorem limb_Mul.calls (a0_0 a0_1 a1_0 a1_1 : Int) (r1 r2 r3 r4 : Int) (w : World) (h : limb_Mul.f a0_0 a0_1 a1_0 a1_1 = some (r1, r2, r3, r4)) :
    Calls Try.prog 14 #[.agg #[.int .u64 a0_0, .int .u64 a0_1], .agg #[.int .u64 a1_0, .int .u64 a1_1]] w fun e w' => e = .returned (.agg #[.int .u64 r1, .int .u64 r2, .int .u64 r3, .int .u64 r4]) ∧ Below w.heap.size w w' := by
  unfold limb_Mul.f at h
  split at h
  · rename_i hb
    obtain ⟨b1, b2, b3, b4⟩ := hb
    obtain ⟨a, rfl, la⟩ := b1.nat
    obtain ⟨b, rfl, lb⟩ := b2.nat
    obtain ⟨c, rfl, lc⟩ := b3.nat
    obtain ⟨d, rfl, ld⟩ := b4.nat
    have H := Go.Lib.hid h
    clear h b1 b2 b3 b4
    have hla := Go.Lib.hid la
    have hlb := Go.Lib.hid lb
    have hlc := Go.Lib.hid lc
    have hld := Go.Lib.hid ld
    clear la lb lc ld
    have hrun := sumW_run
    have hs0 := sumW_0
    have hl0 := loW_0
    have hu24 := Try.underlying24
    have i0 : ∀ (x y : Value) (w : World), (Instr.index 60 (.agg #[x, y]) (.int .i64 0)).run Try.prog w = .ok x w := fun _ _ _ => by rfl
    have i1 : ∀ (x y : Value) (w : World), (Instr.index 60 (.agg #[x, y]) (.int .i64 1)).run Try.prog w = .ok y w := fun _ _ _ => by rfl
    go_enter Try.func14, Try.ntmps14
    go_wp2
    refine wp_loop_rounds 3 ?_
    repeat any_goals (first | (rw [rounds_succ]; go_wp2_with (go_at_call 37; refine (mul64_calls _ _ (by first | exact hla.out | exact hlb.out) (by first | exact hlc.out | exact hld.out) _).mono ?_; rintro e w' ⟨rfl, rfl⟩)) | (refine wp_loop_rounds 3 ?_))
    refine (limb_four.calls0 _ _ _ _ _).mono ?_
    rintro e w1 ⟨rfl, hb1⟩
    have h := H.out
    have la := hla.out
    have lb := hlb.out
    have lc := hlc.out
    have ld := hld.out
    clear H hla hlb hlc hld hrun hs0 hl0
    obtain ⟨p1, p2, p3, p4⟩ := step_int b d 0 0 lb ld (by decide) (by decide)
    obtain ⟨q1, q2, q3, q4⟩ := step_int b c (stepK (b * d) 0 0) 0 lb lc p4 (by decide)
    obtain ⟨s1, s2, s3, s4⟩ := step_int a d 0 (stepO (b * c) (stepK (b * d) 0 0) 0) la ld (by decide) q3
    obtain ⟨u1, u2, u3, u4⟩ := step_int a c (stepK (a * d) 0 (stepO (b * c) (stepK (b * d) 0 0) 0)) (stepK (b * c) (stepK (b * d) 0 0) 0) la lc s4 q4
    have hv := mul_words a b c d la lb lc ld
    obtain ⟨v1, v2, v3, v4⟩ := words_of4 u4 u3 s3 p3 hv
    simp only [Int.natCast_zero, show ((0 : Nat) : Int) = 0 from rfl] at p1 p2 q1 q2 s1 s2
    simp only [n2, e4, Int.toNat_natCast, v1, v2, v3, v4, Option.some.injEq, Prod.mk.injEq] at h
    obtain ⟨rfl, rfl, rfl, rfl⟩ := h
    rw [p1, p2, q1, q2, s1, s2, u1, u2]
    clear p1 p2 p3 p4 q1 q2 q3 q4 s1 s2 s3 s4 u1 u2 u3 u4 v1 v2 v3 v4 hv la lb lc ld
    have hb2 : Below w.heap.size w w1 := Below.trans (by go_grown) (hb1.mono (by simp; omega))
    obtain ⟨hc, hf⟩ := bcell hb1
    clear hb1
    go_wp2
    skip
    refine bodyPost_ret (v := .agg #[.int .u64 ((stepK (a * c) (stepK (a * d) 0 (stepO (b * c) (stepK (b * d) 0 0) 0)) (stepK (b * c) (stepK (b * d) 0 0) 0) : Nat) : Int), .int .u64 ((stepO (a * c) (stepK (a * d) 0 (stepO (b * c) (stepK (b * d) 0 0) 0)) (stepK (b * c) (stepK (b * d) 0 0) 0) : Nat) : Int), .int .u64 ((stepO (a * d) 0 (stepO (b * c) (stepK (b * d) 0 0) 0) : Nat) : Int), .int .u64 ((stepO (b * d) 0 0 : Nat) : Int)]) (by simp [results, Try.results14, go_sem, hc, hf]) rfl ⟨rfl, ?_⟩
    go_grown
  · exact absurd h (by simp)

end Go.Proofs.Ytlpdongckcaclaa.Limb
