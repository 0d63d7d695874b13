/- How long a number is: what the code computes. -/
/- Shifts to the left: what the code computes. -/
/- A quotient and the rest: what the code computes. -/
/- Package limb: what its functions compute, as numbers. -/
import Derived.Test.YtedfbamihjnhhaaProg
import Derived.Test.YtedfbamihjnhhaaBdW
import Derived.Below
import Derived.Deep.Draws
import Derived.Deep.AppendLies
import Derived.Maps.AppendAt
import Derived.OwnWalk
import Derived.Laws.BytesArg
import Derived.Laws.MakeOwn
import Derived.Laws.OwnMore
import Derived.Deep.OwnRows
import Derived.Tactics
import Derived.Lib.ConvBytes
import Derived.Laws.Slices
import Derived.WalkKit
import Derived.KernelRfl
import Derived.RowKit3
import Derived.Deep.LoopGhost
import Derived.Deep.QuietTactic
import Derived.BigQuiet
import Derived.WideLaws
import Derived.Deep.DeepCutAuto
import Derived.Deep.CutBlock
import Derived.Deep.RegionHeld3
import Derived.Laws.Rows
import Derived.Lib.AppendStr
import Derived.ArgAppend
import Derived.Laws.IdiomCopy
import Derived.OrdersHeld
import Derived.Laws.BitsLemmas
import Derived.RowKit
import Derived.Handy
import Derived.RegionTactic
import Derived.Laws.BitsAllLaws
import Derived.Laws.Externs
import Derived.Lib.Hide
import Derived.Shelf.Spec.BitsCarry
import Derived.Test.YtedfbamihjnhhaaInst
section
namespace Go.Proofs.Ytedfbamihjnhhaa.Limb
set_option maxRecDepth 100000
open Go.RowKit Go.Proofs.Ytedfbamihjnhhaa.Plain
set_option linter.unusedVariables false
set_option linter.unusedSimpArgs false
theorem bitLenAux_eq (f : Nat) : ∀ x, x < 2 ^ f → Go.Lib.bitLenAux f x = blen x := by
 induction f with
 | zero =>
  intro x hx
  obtain rfl : x = 0 := by simpa using hx
  simp [Go.Lib.bitLenAux, blen]
 | succ f ih =>
  intro x hx
  rw [Nat.pow_succ] at hx
  unfold Go.Lib.bitLenAux
  by_cases h : x = 0
  ·rw [if_pos h]; simp [blen, h]
  ·rw [if_neg h, ih (x / 2) (by omega)]
   by_cases h2 : x / 2 = 0
   ·have : x = 1 := by omega
    subst this; simp [blen]; decide
   ·have hu := blen_up (x / 2) (x % 2) 1 h2 (by omega)
    rw [show x / 2 * 2 ^ 1 + x % 2 = x by omega] at hu
    rw [hu]
theorem len64_calls (x : Nat) (hx : x < 18446744073709551616) (w : World) :
  Calls Try.prog 125 #[.int .u64 x] w fun e w' => e = .returned (.int .i64 (blen x : Nat)) ∧ w = w' := by
 have h := Try.bits_Len64 (x : Int) w (by omega) (by omega)
 refine h.mono ?_
 rintro e w' ⟨rfl, rfl⟩
 rw [Int.toNat_natCast]
 exact ⟨by unfold Go.Lib.bitLen; rw [bitLenAux_eq 64 x hx], rfl⟩
def limb_Len.f (a0_0 a0_1 a0_2 a0_3 : Int) : Option Int :=
 if Wd a0_0 ∧ Wd a0_1 ∧ Wd a0_2 ∧ Wd a0_3 then some (blen (n4 a0_0 a0_1 a0_2 a0_3) : Nat) else none
theorem blen_word (x : Nat) (hx : x < 18446744073709551616) : blen x ≤ 64 := (blen_le x 64).2 hx
theorem len_cases (a b c d : Nat) (ha : a < 18446744073709551616) (hb : b < 18446744073709551616) (hc : c < 18446744073709551616) (hd : d < 18446744073709551616) (w : World) :
  Calls Try.prog 97 #[.agg #[.int .u64 a, .int .u64 b, .int .u64 c, .int .u64 d]] w fun e w' => e = .returned (.int .i64 (blen (val4 a b c d) : Nat)) ∧ Below w.heap.size w w' := by
 have hu79 := Try.underlying79
 have hu86 := Try.underlying86
 have hu179 := Try.underlying179
 have i0 : ∀ (x y z u : Value) (w : World), (Instr.index 179 (.agg #[x, y, z, u]) (.int .i64 0)).run Try.prog w = .ok x w := fun _ _ _ _ _ => by rfl
 have i1 : ∀ (x y z u : Value) (w : World), (Instr.index 179 (.agg #[x, y, z, u]) (.int .i64 1)).run Try.prog w = .ok y w := fun _ _ _ _ _ => by rfl
 have i2 : ∀ (x y z u : Value) (w : World), (Instr.index 179 (.agg #[x, y, z, u]) (.int .i64 2)).run Try.prog w = .ok z w := fun _ _ _ _ _ => by rfl
 have i3 : ∀ (x y z u : Value) (w : World), (Instr.index 179 (.agg #[x, y, z, u]) (.int .i64 3)).run Try.prog w = .ok u w := fun _ _ _ _ _ => by rfl
 have hla := Go.Lib.hid ha
 have hlb := Go.Lib.hid hb
 have hlc := Go.Lib.hid hc
 have hld := Go.Lib.hid hd
 by_cases z1 : a = 0
 ·by_cases z2 : b = 0
  ·by_cases z3 : c = 0
   ·have e := Go.Lib.hid (blen_0 d)
    have g := blen_word d hd
    by_cases z4 : d = 0
    ·subst z1 z2 z3 z4
     clear hla hlb hlc hld ha hb hc hd e g
     go_enter Try.func97, Try.ntmps97
     go_wp2
     go_rounds 5
     go_ret
     exact ⟨rfl, by go_grown⟩
    ·have n1 : ((d : Int) != 0) = true := by rw [bne_iff_ne]; omega
     subst z1 z2 z3
     clear ha hb hc hd z4 hla hlb hlc
     go_enter Try.func97, Try.ntmps97
     go_wp2
     refine wp_loop_rounds 5 ?_
     repeat any_goals (rw [rounds_succ]; go_wp2_with (go_at_call 125; refine (len64_calls _ (hld.out) _).mono ?_; rintro e w' ⟨rfl, rfl⟩))
     go_ret
     exact ⟨by rw [e.out]; simp, by go_grown⟩
   ·have e := Go.Lib.hid (blen_1 c d z3 hd)
    have g := blen_word c hc
    have n1 : ((c : Int) != 0) = true := by rw [bne_iff_ne]; omega
    subst z1 z2
    clear ha hb hc hd z3 hla hlb hld
    go_enter Try.func97, Try.ntmps97
    go_wp2
    refine wp_loop_rounds 5 ?_
    repeat any_goals (rw [rounds_succ]; go_wp2_with (go_at_call 125; refine (len64_calls _ (hlc.out) _).mono ?_; rintro e w' ⟨rfl, rfl⟩))
    go_ret
    exact ⟨by rw [e.out]; simp, by go_grown⟩
  ·have e := Go.Lib.hid (blen_2 b c d z2 hc hd)
   have g := blen_word b hb
   have n1 : ((b : Int) != 0) = true := by rw [bne_iff_ne]; omega
   subst z1
   clear ha hb hc hd z2 hla hlc hld
   go_enter Try.func97, Try.ntmps97
   go_wp2
   refine wp_loop_rounds 5 ?_
   repeat any_goals (rw [rounds_succ]; go_wp2_with (go_at_call 125; refine (len64_calls _ (hlb.out) _).mono ?_; rintro e w' ⟨rfl, rfl⟩))
   go_ret
   exact ⟨by rw [e.out]; simp, by go_grown⟩
 ·have e := Go.Lib.hid (blen_3 a b c d z1 hb hc hd)
  have g := blen_word a ha
  have n1 : ((a : Int) != 0) = true := by rw [bne_iff_ne]; omega
  clear ha hb hc hd z1 hlb hlc hld
  go_enter Try.func97, Try.ntmps97
  go_wp2
  refine wp_loop_rounds 5 ?_
  repeat any_goals (rw [rounds_succ]; go_wp2_with (go_at_call 125; refine (len64_calls _ (hla.out) _).mono ?_; rintro e w' ⟨rfl, rfl⟩))
  go_ret
  exact ⟨by rw [e.out]; simp, by go_grown⟩
theorem limb_Len.calls (a0_0 a0_1 a0_2 a0_3 : Int) (r : Int) (w : World) (h : limb_Len.f a0_0 a0_1 a0_2 a0_3 = some r) :
  Calls Try.prog 97 #[.agg #[.int .u64 a0_0, .int .u64 a0_1, .int .u64 a0_2, .int .u64 a0_3]] w fun e w' => e = .returned (.int .i64 r) ∧ Below w.heap.size w w' := by
 unfold limb_Len.f at h
 split at h
 ·rename_i hb
  obtain ⟨b1, b2, b3, b4⟩ := hb
  obtain ⟨a, rfl, la⟩ := b1.nat
  obtain ⟨b, rfl, lb⟩ := b2.nat
  obtain ⟨c, rfl, lc⟩ := b3.nat
  obtain ⟨d, rfl, ld⟩ := b4.nat
  simp only [n4, Int.toNat_natCast, Option.some.injEq] at h
  subst h
  exact len_cases a b c d la lb lc ld w
 ·exact absurd h (by simp)
end Go.Proofs.Ytedfbamihjnhhaa.Limb
end
section
namespace Go.Proofs.Ytedfbamihjnhhaa.Limb
set_option maxRecDepth 100000
open Go.RowKit Go.Proofs.Ytedfbamihjnhhaa.Plain
set_option linter.unusedVariables false
set_option linter.unusedSimpArgs false
end Go.Proofs.Ytedfbamihjnhhaa.Limb
end
section
namespace Go.Proofs.Ytedfbamihjnhhaa.Limb
set_option maxRecDepth 100000
open Go.RowKit Go.Proofs.Ytedfbamihjnhhaa.Plain
set_option linter.unusedVariables false
set_option linter.unusedSimpArgs false
theorem bit_word (x s : Nat) (hx : x < 18446744073709551616) : Go.bits .and .u64 ((x : Int) / 2 ^ s) 1 = ((x / 2 ^ s % 2 : Nat) : Int) := by
 have e : (x : Int) / 2 ^ s = ((x / 2 ^ s : Nat) : Int) := by rw [Int.natCast_ediv, Int.natCast_pow]; rfl
 have h := u64_and_nat (x / 2 ^ s) 1 (Nat.lt_of_le_of_lt (Nat.div_le_self _ _) hx) (by decide)
 rw [nat_mask1] at h
 rw [e]
 exact h
theorem bit_calls (a b c d n : Nat) (ha : a < 18446744073709551616) (hb : b < 18446744073709551616) (hc : c < 18446744073709551616) (hd : d < 18446744073709551616) (hn : n < 256) (w : World) :
  Calls Try.prog 149 #[.agg #[.int .u64 d, .int .u64 c, .int .u64 b, .int .u64 a], .int .i64 n] w fun e w' => e = .returned (.int .u64 (val4 a b c d / 2 ^ n % 2 : Nat)) ∧ Below w.heap.size w w' := by
 have hu179 := Try.underlying179
 have hq : n / 64 = 0 ∨ n / 64 = 1 ∨ n / 64 = 2 ∨ n / 64 = 3 := by omega
 rcases hq with hq | hq | hq | hq
 ·have hs : n < 64 := by omega
  have E := Go.Lib.hid ((bit_word d n hd).trans (congrArg (fun z : Nat => (z : Int)) ((bit_of a b c d n hd hc hb).1 hs)))
  have hq' : (n : Int) / 64 = 0 := by omega
  have hs' : (n : Int) % 64 = (n : Int) := by omega
  clear hq ha hb hc hd hn
  go_enter Try.func149, Try.ntmps149
  go_wp2
  go_ret
  exact ⟨by rw [← E.out]; simp, by go_grown⟩
 ·obtain ⟨s, rfl, hs⟩ : ∃ s, n = 64 + s ∧ s < 64 := ⟨n % 64, by omega, by omega⟩
  have E := Go.Lib.hid ((bit_word c s hc).trans (congrArg (fun z : Nat => (z : Int)) ((bit_of a b c d s hd hc hb).2.1 hs)))
  have hq' : ((64 : Int) + (s : Int)) / 64 = 1 := by omega
  have hs' : ((64 : Int) + (s : Int)) % 64 = (s : Int) := by omega
  clear hq ha hb hc hd hn
  go_enter Try.func149, Try.ntmps149
  go_wp2
  go_ret
  exact ⟨by rw [← E.out]; simp, by go_grown⟩
 ·obtain ⟨s, rfl, hs⟩ : ∃ s, n = 128 + s ∧ s < 64 := ⟨n % 64, by omega, by omega⟩
  have E := Go.Lib.hid ((bit_word b s hb).trans (congrArg (fun z : Nat => (z : Int)) ((bit_of a b c d s hd hc hb).2.2.1 hs)))
  have hq' : ((128 : Int) + (s : Int)) / 64 = 2 := by omega
  have hs' : ((128 : Int) + (s : Int)) % 64 = (s : Int) := by omega
  clear hq ha hb hc hd hn
  go_enter Try.func149, Try.ntmps149
  go_wp2
  go_ret
  exact ⟨by rw [← E.out]; simp, by go_grown⟩
 ·obtain ⟨s, rfl, hs⟩ : ∃ s, n = 192 + s ∧ s < 64 := ⟨n % 64, by omega, by omega⟩
  have E := Go.Lib.hid ((bit_word a s ha).trans (congrArg (fun z : Nat => (z : Int)) ((bit_of a b c d s hd hc hb).2.2.2 hs)))
  have hq' : ((192 : Int) + (s : Int)) / 64 = 3 := by omega
  have hs' : ((192 : Int) + (s : Int)) % 64 = (s : Int) := by omega
  clear hq ha hb hc hd hn
  go_enter Try.func149, Try.ntmps149
  go_wp2
  go_ret
  exact ⟨by rw [← E.out]; simp, by go_grown⟩
structure DivNum (A B m R O : Nat) : Prop where
 hm : m ≤ 256
 hR : R = A / 2 ^ m % B
 hO : O = A / 2 ^ m / B * 2 ^ m
theorem divnum_start (A B : Nat) (h : blen A ≤ 256) : DivNum A B (blen A) (val2 0 0) (val4 0 0 0 0) := by
 have e : A / 2 ^ blen A = 0 := Nat.div_eq_of_lt (blen_lt A)
 exact ⟨h, by rw [e]; simp [val2], by rw [e]; simp [val4]⟩
theorem div_round {A B k R O : Nat} (hB : 0 < B) (D : DivNum A B (k + 1) R O) : R < B ∧ O % 2 ^ (k + 1) = 0 ∧
  (2 * R + A / 2 ^ k % 2 < B → DivNum A B k (2 * R + A / 2 ^ k % 2) O) ∧ (B ≤ 2 * R + A / 2 ^ k % 2 → DivNum A B k (2 * R + A / 2 ^ k % 2 - B) (O + 2 ^ k)) := by
 obtain ⟨hm, hR, hO⟩ := D
 have hRB : R < B := by rw [hR]; exact Nat.mod_lt _ hB
 have e1 : A / 2 ^ (k + 1) = A / 2 ^ k / 2 := by rw [Nat.pow_succ, Nat.div_div_eq_div_mul]
 have e2 := Nat.div_add_mod (A / 2 ^ (k + 1)) B
 rw [← hR] at e2
 have e3 : A / 2 ^ k = B * (2 * (A / 2 ^ (k + 1) / B)) + (2 * R + A / 2 ^ k % 2) := by
  have : A / 2 ^ k = 2 * (A / 2 ^ (k + 1)) + A / 2 ^ k % 2 := by rw [e1]; omega
  rw [← e2] at this
  rw [Nat.mul_add, ← Nat.mul_assoc, Nat.mul_comm 2 B, Nat.mul_assoc] at this
  omega
 generalize A / 2 ^ (k + 1) / B = Q at *
 generalize hT : 2 * R + A / 2 ^ k % 2 = T at *
 have hT2 : T < 2 * B := by omega
 refine ⟨hRB, by rw [hO, Nat.mul_mod_left], fun h => ⟨by omega, ?_, ?_⟩, fun h => ⟨by omega, ?_, ?_⟩⟩
 ·rw [e3, Nat.mul_add_mod, Nat.mod_eq_of_lt h]
 ·rw [e3, Nat.mul_add_div hB, Nat.div_eq_of_lt h, hO, Nat.pow_succ, Nat.add_zero, Nat.mul_comm (2 ^ k) 2, ← Nat.mul_assoc, Nat.mul_comm 2 Q]
 ·rw [e3, Nat.mul_add_mod, show T = B * 1 + (T - B) by omega, Nat.mul_add_mod, Nat.mod_eq_of_lt (by omega)]
  omega
 ·have : T / B = 1 := Nat.div_eq_of_lt_le (by omega) (by omega)
  rw [e3, Nat.mul_add_div hB, this, hO, Nat.pow_succ, Nat.add_mul, Nat.one_mul, Nat.mul_comm (2 ^ k) 2, ← Nat.mul_assoc, Nat.mul_comm 2 Q]
theorem double_words (r1 r0 e : Nat) (he : e < 2) (h1 : r1 < 18446744073709551616) (h0 : r0 < 18446744073709551616) :
  (r1 * 2 % 18446744073709551616 ||| r0 / 9223372036854775808) < 18446744073709551616 ∧ (r0 * 2 % 18446744073709551616 ||| e) < 18446744073709551616 ∧ val2 (r1 * 2 % 18446744073709551616 ||| r0 / 9223372036854775808) (r0 * 2 % 18446744073709551616 ||| e) = (2 * val2 r1 r0 + e) % 340282366920938463463374607431768211456 := by
 have q1 : (r1 * 2 % 18446744073709551616 ||| r0 / 9223372036854775808) = r1 * 2 % 18446744073709551616 + r0 / 9223372036854775808 := by
  have h := or_add 1 (r1 % 9223372036854775808) (r0 / 9223372036854775808) (by omega)
  rw [Nat.pow_one] at h
  rw [show r1 * 2 % 18446744073709551616 = 2 * (r1 % 9223372036854775808) by omega]
  exact h
 have q2 : (r0 * 2 % 18446744073709551616 ||| e) = r0 * 2 % 18446744073709551616 + e := by
  have h := or_add 1 (r0 % 9223372036854775808) e (by omega)
  rw [Nat.pow_one] at h
  rw [show r0 * 2 % 18446744073709551616 = 2 * (r0 % 9223372036854775808) by omega]
  exact h
 rw [q1, q2]
 unfold val2
 omega
theorem set_bit (o s : Nat) (hs : s < 64) (ho : o < 18446744073709551616) (h : o % 2 ^ (s + 1) = 0) : o ||| 2 ^ s = o + 2 ^ s ∧ o + 2 ^ s < 18446744073709551616 := by
 have e : o = 2 ^ (s + 1) * (o / 2 ^ (s + 1)) := by have := Nat.div_add_mod o (2 ^ (s + 1)); omega
 have h1 := or_add (s + 1) (o / 2 ^ (s + 1)) (2 ^ s) (Nat.pow_lt_pow_right (by decide) (by omega))
 rw [← e] at h1
 have h2 := Nat.or_lt_two_pow (n := 64) ho (Nat.pow_lt_pow_right (by decide) hs)
 exact ⟨h1, by rw [← h1]; exact h2⟩
theorem word_zero (a b c d k s : Nat) (hs : s < 64) (hb : b < 18446744073709551616) (hc : c < 18446744073709551616) (hd : d < 18446744073709551616) (h : val4 a b c d % 2 ^ (k + 1) = 0) : (k = s → d % 2 ^ (s + 1) = 0) ∧ (k = 64 + s → c % 2 ^ (s + 1) = 0) ∧ (k = 128 + s → b % 2 ^ (s + 1) = 0) ∧ (k = 192 + s → a % 2 ^ (s + 1) = 0) := by
 have hW : 2 ^ (s + 1) * 2 ^ (63 - s) = 18446744073709551616 := by rw [← Nat.pow_add, show s + 1 + (63 - s) = 64 by omega]
 have low : ∀ x y : Nat, (x * 18446744073709551616 + y) % 2 ^ (s + 1) = y % 2 ^ (s + 1) := fun x y => by
  rw [← hW, ← Nat.mul_assoc, Nat.mul_comm x, Nat.mul_assoc, Nat.mul_add_mod]
 have up : ∀ (x y t : Nat), (x * 2 ^ t + y) % 2 ^ (t + (s + 1)) = 0 → y < 2 ^ t → x % 2 ^ (s + 1) = 0 := fun x y t h hy => by
  have h1 : (x * 2 ^ t + y) / 2 ^ t % 2 ^ (s + 1) = 0 := by
   have := Nat.mod_mul_right_div_self (x * 2 ^ t + y) (2 ^ t) (2 ^ (s + 1))
   rw [← Nat.pow_add, h, Nat.zero_div] at this
   exact this.symm
  rwa [Nat.mul_comm, Nat.mul_add_div (Nat.pow_pos (by decide)), Nat.div_eq_of_lt hy, Nat.add_zero] at h1
 have v3 : val4 a b c d = a * 2 ^ 192 + (b * 2 ^ 128 + (c * 2 ^ 64 + d)) := by unfold val4; simp only [Nat.reducePow]; omega
 refine ⟨fun hk => ?_, fun hk => ?_, fun hk => ?_, fun hk => ?_⟩
 ·subst hk
  unfold val4 at h
  rw [low] at h
  exact h
 ·subst hk
  have e : val4 a b c d = (val4 0 a b c) * 2 ^ 64 + d := by unfold val4; simp only [Nat.reducePow]; omega
  rw [e, show 64 + s + 1 = 64 + (s + 1) by omega] at h
  have h1 := up _ _ _ h hd
  unfold val4 at h1
  rwa [low] at h1
 ·subst hk
  have e : val4 a b c d = (val4 0 0 a b) * 2 ^ 128 + (c * 2 ^ 64 + d) := by unfold val4; simp only [Nat.reducePow]; omega
  rw [e, show 128 + s + 1 = 128 + (s + 1) by omega] at h
  have h1 := up _ _ _ h (by simp only [Nat.reducePow]; omega)
  unfold val4 at h1
  rwa [low] at h1
 ·subst hk
  rw [v3, show 192 + s + 1 = 192 + (s + 1) by omega] at h
  exact up _ _ _ h (by simp only [Nat.reducePow]; omega)
theorem sub_calls (x1 x0 p q : Nat) (h1 : x1 < 18446744073709551616) (h0 : x0 < 18446744073709551616) (hp : p < 18446744073709551616) (hq : q < 18446744073709551616) (w : World) :
  Calls Try.prog 69 #[.agg #[.int .u64 x1, .int .u64 x0], .agg #[.int .u64 p, .int .u64 q]] w fun e w' => e = .returned (.tuple #[.agg #[.int .u64 (wrd 1 (val2 x1 x0 + 340282366920938463463374607431768211456 - val2 p q) : Nat), .int .u64 (wrd 0 (val2 x1 x0 + 340282366920938463463374607431768211456 - val2 p q) : Nat)], .bool (decide (val2 x1 x0 < val2 p q))]) ∧ Below w.heap.size w w' := by
 refine limb_Sub.calls _ _ _ _ _ _ _ w ?_
 unfold limb_Sub.f
 rw [if_pos ⟨Wd.mk h1, Wd.mk h0, Wd.mk hp, Wd.mk hq⟩]
 simp only [n2, e2, Int.toNat_natCast]
 congr
theorem val2_mod (N : Nat) : val2 (wrd 1 N) (wrd 0 N) = N % 340282366920938463463374607431768211456 := by
 unfold val2 wrd
 simp only [Nat.reducePow]
 omega
theorem div_in {A B k O x1 x0 r1 r0 e : Nat} (bb ls : Bool) (D : DivNum A B (k + 1) (val2 r1 r0) O) (hB : ¬ B = 0) (hB2 : B < 340282366920938463463374607431768211456) (he : A / 2 ^ k % 2 = e) (hx : val2 x1 x0 = (2 * val2 r1 r0 + e) % 340282366920938463463374607431768211456) (hbb : bb = decide (340282366920938463463374607431768211456 ≤ 2 * val2 r1 r0 + e)) (hls : decide (val2 x1 x0 < B) = ls) (h : (bb || !ls) = true) :
  DivNum A B k (val2 (wrd 1 (val2 x1 x0 + 340282366920938463463374607431768211456 - B)) (wrd 0 (val2 x1 x0 + 340282366920938463463374607431768211456 - B))) (O + 2 ^ k) ∧ O % 2 ^ (k + 1) = 0 := by
 obtain ⟨h1, h2, _, h4⟩ := div_round (Nat.pos_of_ne_zero hB) D
 rw [he] at h4
 generalize val2 r1 r0 = R at *
 have hT : B ≤ 2 * R + e := by
  subst hbb hls
  simp only [Bool.or_eq_true, decide_eq_true_eq, Bool.not_eq_true', decide_eq_false_iff_not] at h
  omega
 have he2 : e < 2 := by omega
 rw [val2_mod, hx, show ((2 * R + e) % 340282366920938463463374607431768211456 + 340282366920938463463374607431768211456 - B) % 340282366920938463463374607431768211456 = 2 * R + e - B by omega]
 exact ⟨h4 hT, h2⟩
theorem div_out {A B k O x1 x0 r1 r0 e : Nat} (D : DivNum A B (k + 1) (val2 r1 r0) O) (hB : ¬ B = 0) (he : A / 2 ^ k % 2 = e) (hx : val2 x1 x0 = (2 * val2 r1 r0 + e) % 340282366920938463463374607431768211456) (hbb : false = decide (340282366920938463463374607431768211456 ≤ 2 * val2 r1 r0 + e)) (hls : decide (val2 x1 x0 < B) = true) :
  DivNum A B k (val2 x1 x0) O := by
 obtain ⟨_, _, h3, _⟩ := div_round (Nat.pos_of_ne_zero hB) D
 rw [he] at h3
 have hb : ¬ 340282366920938463463374607431768211456 ≤ 2 * val2 r1 r0 + e := of_decide_eq_false hbb.symm
 have hl := of_decide_eq_true hls
 rw [Nat.mod_eq_of_lt (by omega)] at hx
 rw [hx] at hl ⊢
 exact h3 hl
theorem quot_bit (o3 o2 o1 o0 k s : Nat) (hs : s < 64) (l3 : o3 < 18446744073709551616) (l2 : o2 < 18446744073709551616) (l1 : o1 < 18446744073709551616) (l0 : o0 < 18446744073709551616) (h : val4 o3 o2 o1 o0 % 2 ^ (k + 1) = 0) :
  (k = s → (o0 ||| 2 ^ s) < 18446744073709551616 ∧ val4 o3 o2 o1 (o0 ||| 2 ^ s) = val4 o3 o2 o1 o0 + 2 ^ k) ∧ (k = 64 + s → (o1 ||| 2 ^ s) < 18446744073709551616 ∧ val4 o3 o2 (o1 ||| 2 ^ s) o0 = val4 o3 o2 o1 o0 + 2 ^ k) ∧
  (k = 128 + s → (o2 ||| 2 ^ s) < 18446744073709551616 ∧ val4 o3 (o2 ||| 2 ^ s) o1 o0 = val4 o3 o2 o1 o0 + 2 ^ k) ∧ (k = 192 + s → (o3 ||| 2 ^ s) < 18446744073709551616 ∧ val4 (o3 ||| 2 ^ s) o2 o1 o0 = val4 o3 o2 o1 o0 + 2 ^ k) := by
 obtain ⟨z0, z1, z2, z3⟩ := word_zero o3 o2 o1 o0 k s hs l2 l1 l0 h
 refine ⟨fun e => ?_, fun e => ?_, fun e => ?_, fun e => ?_⟩
 ·obtain ⟨b1, b2⟩ := set_bit o0 s hs l0 (z0 e)
  rw [b1, e]
  exact ⟨b2, by unfold val4; omega⟩
 ·obtain ⟨b1, b2⟩ := set_bit o1 s hs l1 (z1 e)
  rw [b1, e, Nat.pow_add]
  exact ⟨b2, by unfold val4; simp only [Nat.reducePow]; omega⟩
 ·obtain ⟨b1, b2⟩ := set_bit o2 s hs l2 (z2 e)
  rw [b1, e, Nat.pow_add]
  exact ⟨b2, by unfold val4; simp only [Nat.reducePow]; omega⟩
 ·obtain ⟨b1, b2⟩ := set_bit o3 s hs l3 (z3 e)
  rw [b1, e, Nat.pow_add]
  exact ⟨b2, by unfold val4; simp only [Nat.reducePow]; omega⟩
theorem set_word (o s : Nat) (hs : s < 64) (ho : o < 18446744073709551616) : Go.bits .or .u64 (o : Int) (IntKind.u64.wrap (2 ^ s)) = ((o ||| 2 ^ s : Nat) : Int) := by
 have hp : 2 ^ s < 18446744073709551616 := Nat.pow_lt_pow_right (by decide) hs
 have e : IntKind.u64.wrap (2 ^ s) = ((2 ^ s : Nat) : Int) := by
  rw [IntKind.wrap_u64, show (2 : Int) ^ s = ((2 ^ s : Nat) : Int) by rw [Int.natCast_pow]; rfl]
  generalize 2 ^ s = P at *
  omega
 rw [e]
 exact u64_or_nat _ _ ho hp
theorem div_end {A B r1 r0 o3 o2 o1 o0 : Nat} (D : DivNum A B 0 (val2 r1 r0) (val4 o3 o2 o1 o0)) (l1 : r1 < 18446744073709551616) (l0 : r0 < 18446744073709551616) (m3 : o3 < 18446744073709551616) (m2 : o2 < 18446744073709551616) (m1 : o1 < 18446744073709551616) (m0 : o0 < 18446744073709551616) :
  wrd 3 (A / B) = o3 ∧ wrd 2 (A / B) = o2 ∧ wrd 1 (A / B) = o1 ∧ wrd 0 (A / B) = o0 ∧ wrd 1 (A % B) = r1 ∧ wrd 0 (A % B) = r0 := by
 obtain ⟨_, hR, hO⟩ := D
 rw [Nat.pow_zero, Nat.div_one] at hR
 rw [Nat.pow_zero, Nat.div_one, Nat.mul_one] at hO
 obtain ⟨v1, v2, v3, v4⟩ := words_of4 m3 m2 m1 m0 hO
 obtain ⟨u1, u2⟩ := words_of2 l1 l0 hR
 exact ⟨v1, v2, v3, v4, u1, u2⟩
theorem beyond_iff (r1 r0 e : Nat) (he : e < 2) (h0 : r0 < 18446744073709551616) : decide (0 < (r1 : Int) / 9223372036854775808) = decide (340282366920938463463374607431768211456 ≤ 2 * val2 r1 r0 + e) := by
 rw [decide_eq_decide]; unfold val2; omega
theorem hi_word (r1 r0 : Nat) (h0 : r0 < 18446744073709551616) : Go.bits .or .u64 (IntKind.u64.wrap ((r1 : Int) * 2)) ((r0 : Int) / 9223372036854775808) = ((r1 * 2 % 18446744073709551616 ||| r0 / 9223372036854775808 : Nat) : Int) := by
 rw [show IntKind.u64.wrap ((r1 : Int) * 2) = ((r1 * 2 % 18446744073709551616 : Nat) : Int) by rw [IntKind.wrap_u64]; omega, show (r0 : Int) / 9223372036854775808 = ((r0 / 9223372036854775808 : Nat) : Int) by omega]
 exact u64_or_nat _ _ (Nat.mod_lt _ (by decide)) (by omega)
theorem lo_word (r0 e : Nat) (he : e < 2) : Go.bits .or .u64 (IntKind.u64.wrap ((r0 : Int) * 2)) (e : Int) = ((r0 * 2 % 18446744073709551616 ||| e : Nat) : Int) := by
 rw [show IntKind.u64.wrap ((r0 : Int) * 2) = ((r0 * 2 % 18446744073709551616 : Nat) : Int) by rw [IntKind.wrap_u64]; omega]
 exact u64_or_nat _ _ (Nat.mod_lt _ (by decide)) (by omega)
end Go.Proofs.Ytedfbamihjnhhaa.Limb
end
section
namespace Go.Proofs.Ytedfbamihjnhhaa.Own
open Go Go.RowKit Go.Proofs Go.Proofs.Ytedfbamihjnhhaa.Plain
open Go.Proofs.Ytedfbamihjnhhaa.Limb (limb_Add.f limb_Add.calls limb_Sub.f limb_Sub.calls limb_Len.f limb_Len.calls limb_list.calls0 limb_four.calls0 n2 n4 e2 e4 Wd DivNum divnum_start div_round double_words val2_mod div_in div_out quot_bit set_word div_end beyond_iff hi_word lo_word bit_calls sub_calls)
set_option linter.unusedVariables false
set_option linter.unusedSimpArgs false
structure Two where
 hi : Int
 lo : Int
 b : 0 ≤ hi ∧ hi < 18446744073709551616 ∧ 0 ≤ lo ∧ lo < 18446744073709551616
def Two.n (a : Two) : Nat := n2 a.hi a.lo
@[reducible] def Two.v (a : Two) : Value := .agg #[.int .u64 a.hi, .int .u64 a.lo]
def Two.of (N : Nat) : Two := ⟨(wrd 1 N : Nat), (wrd 0 N : Nat), by have := wrd_lt 1 N; have := wrd_lt 0 N; omega⟩
structure Four where
 hi : Two
 lo : Two
def Four.n (a : Four) : Nat := n4 a.hi.hi a.hi.lo a.lo.hi a.lo.lo
@[reducible] def Four.v (a : Four) : Value := .agg #[.int .u64 a.hi.hi, .int .u64 a.hi.lo, .int .u64 a.lo.hi, .int .u64 a.lo.lo]
def Four.of (N : Nat) : Four := ⟨⟨(wrd 3 N : Nat), (wrd 2 N : Nat), by have := wrd_lt 3 N; have := wrd_lt 2 N; omega⟩, ⟨(wrd 1 N : Nat), (wrd 0 N : Nat), by have := wrd_lt 1 N; have := wrd_lt 0 N; omega⟩⟩
theorem Two.wd (a : Two) : Wd a.hi ∧ Wd a.lo := by have := a.b; unfold Wd; omega
theorem Two.lt (a : Two) : a.n < 340282366920938463463374607431768211456 := by have := a.b; unfold Two.n n2 val2; omega
theorem Four.lt (a : Four) : a.n < 115792089237316195423570985008687907853269984665640564039457584007913129639936 := by have := a.hi.b; have := a.lo.b; unfold Four.n n4 val4; omega
theorem Four.n_eq (a : Four) : a.n = a.hi.n * 340282366920938463463374607431768211456 + a.lo.n := by have := a.hi.b; have := a.lo.b; unfold Four.n Two.n n4 n2 val4 val2; omega
theorem Two.of_n (N : Nat) : (Two.of N).n = N % 340282366920938463463374607431768211456 := by
 unfold Two.n Two.of n2 val2 wrd; simp only [Int.toNat_natCast, Nat.reducePow]; omega
theorem Two.n_of (a : Two) : Two.of a.n = a := by
 obtain ⟨h, l, hb⟩ := a
 simp only [Two.n, Two.of, n2, val2, wrd, Two.mk.injEq, Nat.reducePow]; omega
theorem Two.ext_n {a b : Two} (h : a.n = b.n) : a = b := by rw [← Two.n_of a, ← Two.n_of b, h]
theorem Four.of_n (N : Nat) : (Four.of N).n = N % 115792089237316195423570985008687907853269984665640564039457584007913129639936 := by
 unfold Four.n Four.of n4 val4 wrd; simp only [Int.toNat_natCast, Nat.reducePow]; omega
theorem Four.n_of (a : Four) : Four.of a.n = a := by
 obtain ⟨⟨h, l, hb⟩, ⟨h', l', hb'⟩⟩ := a
 simp only [Four.n, Four.of, n4, val4, wrd, Four.mk.injEq, Two.mk.injEq, Nat.reducePow]
 omega
theorem Four.ext_n {a b : Four} (h : a.n = b.n) : a = b := by rw [← Four.n_of a, ← Four.n_of b, h]
theorem add_pure (a b : Two) : Pure Try.prog 66 #[a.v, b.v] (.tuple #[(Two.of (a.n + b.n)).v, .bool (decide (340282366920938463463374607431768211456 ≤ a.n + b.n))]) := fun w =>
 limb_Add.calls _ _ _ _ _ _ _ w (by unfold limb_Add.f; rw [if_pos ⟨a.wd.1, a.wd.2, b.wd⟩]; rfl)
theorem sub_pure (a b : Two) : Pure Try.prog 69 #[a.v, b.v] (.tuple #[(Two.of (a.n + 340282366920938463463374607431768211456 - b.n)).v, .bool (decide (a.n < b.n))]) := fun w =>
 limb_Sub.calls _ _ _ _ _ _ _ w (by unfold limb_Sub.f; rw [if_pos ⟨a.wd.1, a.wd.2, b.wd⟩]; rfl)
theorem len_pure (a : Four) : Pure Try.prog 97 #[a.v] (.int .i64 (blen a.n : Nat)) := fun w =>
 limb_Len.calls _ _ _ _ _ w (by unfold limb_Len.f; rw [if_pos ⟨a.hi.wd.1, a.hi.wd.2, a.lo.wd⟩]; rfl)
theorem list_pure (a : Four) : Pure Try.prog 148 #[a.v] (.agg #[.int .u64 a.lo.lo, .int .u64 a.lo.hi, .int .u64 a.hi.lo, .int .u64 a.hi.hi]) := fun w => limb_list.calls0 _ _ _ _ w
theorem four_pure (x0 x1 x2 x3 : Int) : Pure Try.prog 150 #[.agg #[.int .u64 x0, .int .u64 x1, .int .u64 x2, .int .u64 x3]] (.agg #[.int .u64 x3, .int .u64 x2, .int .u64 x1, .int .u64 x0]) := fun w => limb_four.calls0 _ _ _ _ w
theorem bit_pure {a b c d n : Nat} (ha : a < 18446744073709551616) (hb : b < 18446744073709551616) (hc : c < 18446744073709551616) (hd : d < 18446744073709551616) (hn : n < 256) : Pure Try.prog 149 #[.agg #[.int .u64 (d : Nat), .int .u64 (c : Nat), .int .u64 (b : Nat), .int .u64 (a : Nat)], .int .i64 (n : Nat)] (.int .u64 (val4 a b c d / 2 ^ n % 2 : Nat)) := fun w => bit_calls a b c d n ha hb hc hd hn w
theorem subw_pure {x1 x0 p q : Nat} (h1 : x1 < 18446744073709551616) (h0 : x0 < 18446744073709551616) (hp : p < 18446744073709551616) (hq : q < 18446744073709551616) :
  Pure Try.prog 69 #[.agg #[.int .u64 (x1 : Nat), .int .u64 (x0 : Nat)], .agg #[.int .u64 (p : Nat), .int .u64 (q : Nat)]] (.tuple #[.agg #[.int .u64 (wrd 1 (val2 x1 x0 + 340282366920938463463374607431768211456 - val2 p q) : Nat), .int .u64 (wrd 0 (val2 x1 x0 + 340282366920938463463374607431768211456 - val2 p q) : Nat)], .bool (decide (val2 x1 x0 < val2 p q))]) := fun w => sub_calls x1 x0 p q h1 h0 hp hq w
end Go.Proofs.Ytedfbamihjnhhaa.Own
end
