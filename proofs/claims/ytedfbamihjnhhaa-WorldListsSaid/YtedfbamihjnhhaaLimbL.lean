/- How long a number is: what the code computes. -/
import Derived.Test.YtedfbamihjnhhaaProg
import Derived.Test.YtedfbamihjnhhaaLimbA
import Derived.Below
import Derived.Deep.Draws
import Derived.Deep.AppendLies
import Derived.Maps.AppendAt
import Derived.OwnWalk
import Derived.Laws.BytesArg
import Derived.Laws.MakeOwn
import Derived.Laws.OwnMore
import Derived.Deep.OwnRows
import Derived.Tactics
import Derived.Lib.ConvBytes
import Derived.Laws.Slices
import Derived.WalkKit
import Derived.KernelRfl
import Derived.RowKit3
import Derived.Deep.LoopGhost
import Derived.Deep.QuietTactic
import Derived.BigQuiet
import Derived.WideLaws
import Derived.Deep.DeepCutAuto
import Derived.Deep.CutBlock
import Derived.Deep.RegionHeld3
import Derived.Laws.Rows
import Derived.Lib.AppendStr
import Derived.ArgAppend
import Derived.Laws.IdiomCopy
import Derived.OrdersHeld
import Derived.Laws.BitsLemmas
import Derived.RowKit
import Derived.Handy
import Derived.RegionTactic
import Derived.Laws.BitsAllLaws
import Derived.Laws.Externs
import Derived.Lib.Hide
import Derived.Shelf.Spec.BitsCarry
import Derived.Test.YtedfbamihjnhhaaWide
import Derived.Test.YtedfbamihjnhhaaShelf
namespace Go.Proofs.Ytedfbamihjnhhaa.Limb
set_option maxRecDepth 100000
open Go.RowKit Go.Proofs.Ytedfbamihjnhhaa.Plain
set_option linter.unusedVariables false
set_option linter.unusedSimpArgs false

theorem bitLenAux_eq (f : Nat) : ∀ x, x < 2 ^ f → Go.Lib.bitLenAux f x = blen x := by
  induction f with
  | zero =>
    intro x hx
    obtain rfl : x = 0 := by simpa using hx
    simp [Go.Lib.bitLenAux, blen]
  | succ f ih =>
    intro x hx
    rw [Nat.pow_succ] at hx
    unfold Go.Lib.bitLenAux
    by_cases h : x = 0
    · rw [if_pos h]; simp [blen, h]
    · rw [if_neg h, ih (x / 2) (by omega)]
      by_cases h2 : x / 2 = 0
      · have : x = 1 := by omega
        subst this; simp [blen]; decide
      · have hu := blen_up (x / 2) (x % 2) 1 h2 (by omega)
        rw [show x / 2 * 2 ^ 1 + x % 2 = x by omega] at hu
        rw [hu]
theorem len64_calls (x : Nat) (hx : x < 18446744073709551616) (w : World) :
    Calls Try.prog 125 #[.int .u64 x] w fun e w' => e = .returned (.int .i64 (blen x : Nat)) ∧ w = w' := by
  have h := Try.bits_Len64 (x : Int) w (by omega) (by omega)
  refine h.mono ?_
  rintro e w' ⟨rfl, rfl⟩
  rw [Int.toNat_natCast]
  exact ⟨by unfold Go.Lib.bitLen; rw [bitLenAux_eq 64 x hx], rfl⟩
def limb_Len.f (a0_0 a0_1 a0_2 a0_3 : Int) : Option Int :=
  if Wd a0_0 ∧ Wd a0_1 ∧ Wd a0_2 ∧ Wd a0_3 then some (blen (n4 a0_0 a0_1 a0_2 a0_3) : Nat) else none
theorem blen_word (x : Nat) (hx : x < 18446744073709551616) : blen x ≤ 64 := (blen_le x 64).2 hx
theorem len_cases (a b c d : Nat) (ha : a < 18446744073709551616) (hb : b < 18446744073709551616) (hc : c < 18446744073709551616) (hd : d < 18446744073709551616) (w : World) :
    Calls Try.prog 97 #[.agg #[.int .u64 a, .int .u64 b, .int .u64 c, .int .u64 d]] w fun e w' => e = .returned (.int .i64 (blen (val4 a b c d) : Nat)) ∧ Below w.heap.size w w' := by
  have hu79 := Try.underlying79
  have hu86 := Try.underlying86
  have hu179 := Try.underlying179
  have i0 : ∀ (x y z u : Value) (w : World), (Instr.index 179 (.agg #[x, y, z, u]) (.int .i64 0)).run Try.prog w = .ok x w := fun _ _ _ _ _ => by rfl
  have i1 : ∀ (x y z u : Value) (w : World), (Instr.index 179 (.agg #[x, y, z, u]) (.int .i64 1)).run Try.prog w = .ok y w := fun _ _ _ _ _ => by rfl
  have i2 : ∀ (x y z u : Value) (w : World), (Instr.index 179 (.agg #[x, y, z, u]) (.int .i64 2)).run Try.prog w = .ok z w := fun _ _ _ _ _ => by rfl
  have i3 : ∀ (x y z u : Value) (w : World), (Instr.index 179 (.agg #[x, y, z, u]) (.int .i64 3)).run Try.prog w = .ok u w := fun _ _ _ _ _ => by rfl
  have hla := Go.Lib.hid ha
  have hlb := Go.Lib.hid hb
  have hlc := Go.Lib.hid hc
  have hld := Go.Lib.hid hd
  by_cases z1 : a = 0
  · by_cases z2 : b = 0
    · by_cases z3 : c = 0
      · have e := Go.Lib.hid (blen_0 d)
        have g := blen_word d hd
        by_cases z4 : d = 0
        · subst z1 z2 z3 z4
          clear hla hlb hlc hld ha hb hc hd e g
          go_enter Try.func97, Try.ntmps97
          go_wp2
          go_rounds 5
          go_ret
          exact ⟨rfl, by go_grown⟩
        · have n1 : ((d : Int) != 0) = true := by rw [bne_iff_ne]; omega
          subst z1 z2 z3
          clear ha hb hc hd z4 hla hlb hlc
          go_enter Try.func97, Try.ntmps97
          go_wp2
          refine wp_loop_rounds 5 ?_
          repeat any_goals (rw [rounds_succ]; go_wp2_with (go_at_call 125; refine (len64_calls _ (hld.out) _).mono ?_; rintro e w' ⟨rfl, rfl⟩))
          go_ret
          exact ⟨by rw [e.out]; simp, by go_grown⟩
      · have e := Go.Lib.hid (blen_1 c d z3 hd)
        have g := blen_word c hc
        have n1 : ((c : Int) != 0) = true := by rw [bne_iff_ne]; omega
        subst z1 z2
        clear ha hb hc hd z3 hla hlb hld
        go_enter Try.func97, Try.ntmps97
        go_wp2
        refine wp_loop_rounds 5 ?_
        repeat any_goals (rw [rounds_succ]; go_wp2_with (go_at_call 125; refine (len64_calls _ (hlc.out) _).mono ?_; rintro e w' ⟨rfl, rfl⟩))
        go_ret
        exact ⟨by rw [e.out]; simp, by go_grown⟩
    · have e := Go.Lib.hid (blen_2 b c d z2 hc hd)
      have g := blen_word b hb
      have n1 : ((b : Int) != 0) = true := by rw [bne_iff_ne]; omega
      subst z1
      clear ha hb hc hd z2 hla hlc hld
      go_enter Try.func97, Try.ntmps97
      go_wp2
      refine wp_loop_rounds 5 ?_
      repeat any_goals (rw [rounds_succ]; go_wp2_with (go_at_call 125; refine (len64_calls _ (hlb.out) _).mono ?_; rintro e w' ⟨rfl, rfl⟩))
      go_ret
      exact ⟨by rw [e.out]; simp, by go_grown⟩
  · have e := Go.Lib.hid (blen_3 a b c d z1 hb hc hd)
    have g := blen_word a ha
    have n1 : ((a : Int) != 0) = true := by rw [bne_iff_ne]; omega
    clear ha hb hc hd z1 hlb hlc hld
    go_enter Try.func97, Try.ntmps97
    go_wp2
    refine wp_loop_rounds 5 ?_
    repeat any_goals (rw [rounds_succ]; go_wp2_with (go_at_call 125; refine (len64_calls _ (hla.out) _).mono ?_; rintro e w' ⟨rfl, rfl⟩))
    go_ret
    exact ⟨by rw [e.out]; simp, by go_grown⟩
theorem limb_Len.calls (a0_0 a0_1 a0_2 a0_3 : Int) (r : Int) (w : World) (h : limb_Len.f a0_0 a0_1 a0_2 a0_3 = some r) :
    Calls Try.prog 97 #[.agg #[.int .u64 a0_0, .int .u64 a0_1, .int .u64 a0_2, .int .u64 a0_3]] w fun e w' => e = .returned (.int .i64 r) ∧ Below w.heap.size w w' := by
  unfold limb_Len.f at h
  split at h
  · rename_i hb
    obtain ⟨b1, b2, b3, b4⟩ := hb
    obtain ⟨a, rfl, la⟩ := b1.nat
    obtain ⟨b, rfl, lb⟩ := b2.nat
    obtain ⟨c, rfl, lc⟩ := b3.nat
    obtain ⟨d, rfl, ld⟩ := b4.nat
    simp only [n4, Int.toNat_natCast, Option.some.injEq] at h
    subst h
    exact len_cases a b c d la lb lc ld w
  · exact absurd h (by simp)

end Go.Proofs.Ytedfbamihjnhhaa.Limb
