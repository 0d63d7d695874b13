/- Plain laws of wide numbers: words, sums, products, shifts, lengths. -/
/-
  DERIVED: THE SHELF's CONTRACTS AT THIS DUMP, IN PLAIN WORDS (tools/lay-plain.mjs out of 'TryShelf.lean', which tools/lay-shelf.mjs wrote): THE SAME DECLARATIONS UNDER THE SAME NAMES: 'import', 'namespace', 'open', 'def', 'theorem' AND NOTHING ELSE: no command of the shelf's: FOR A HAND-IN. Each laying: the table of numbers ('.._ren') and one theorem, a field a fact of the dump's own or the kernel's comparison; each contract: ONE APPLICATION.
-/
/- Sum and difference of wide numbers, and their words: what the code computes. -/
import Derived.Shelf.Strconv.Itoa0
import Derived.Test.YtedfbamihjnhhaaProg
import Derived.Below
import Derived.Deep.Draws
import Derived.Deep.AppendLies
import Derived.Maps.AppendAt
import Derived.OwnWalk
import Derived.Laws.BytesArg
import Derived.Laws.MakeOwn
import Derived.Laws.OwnMore
import Derived.Deep.OwnRows
import Derived.Tactics
import Derived.Lib.ConvBytes
import Derived.Laws.Slices
import Derived.WalkKit
import Derived.KernelRfl
import Derived.RowKit3
import Derived.Deep.LoopGhost
import Derived.Deep.QuietTactic
import Derived.BigQuiet
import Derived.WideLaws
import Derived.Deep.DeepCutAuto
import Derived.Deep.CutBlock
import Derived.Deep.RegionHeld3
import Derived.Laws.Rows
import Derived.Lib.AppendStr
import Derived.ArgAppend
import Derived.Laws.IdiomCopy
import Derived.OrdersHeld
import Derived.Laws.BitsLemmas
import Derived.RowKit
import Derived.Handy
import Derived.RegionTactic
import Derived.Laws.BitsAllLaws
import Derived.Laws.Externs
import Derived.Lib.Hide
import Derived.Shelf.Spec.BitsCarry
section
namespace Go.Proofs.Ytedfbamihjnhhaa.Plain
def val4 (a b c d : Nat) : Nat := ((a * 18446744073709551616 + b) * 18446744073709551616 + c) * 18446744073709551616 + d
def val2 (a b : Nat) : Nat := a * 18446744073709551616 + b
def wrd (i N : Nat) : Nat := N / 18446744073709551616 ^ i % 18446744073709551616
theorem wrd_lt (i N : Nat) : wrd i N < 18446744073709551616 := Nat.mod_lt _ (by decide)
theorem val4_lt {a b c d : Nat} (ha : a < 18446744073709551616) (hb : b < 18446744073709551616) (hc : c < 18446744073709551616) (hd : d < 18446744073709551616) : val4 a b c d < 115792089237316195423570985008687907853269984665640564039457584007913129639936 := by
 unfold val4; omega
theorem val2_lt {a b : Nat} (ha : a < 18446744073709551616) (hb : b < 18446744073709551616) : val2 a b < 340282366920938463463374607431768211456 := by
 unfold val2; omega
theorem words_of4 {a b c d N : Nat} (ha : a < 18446744073709551616) (hb : b < 18446744073709551616) (hc : c < 18446744073709551616) (hd : d < 18446744073709551616) (h : val4 a b c d = N) :
  wrd 3 N = a ∧ wrd 2 N = b ∧ wrd 1 N = c ∧ wrd 0 N = d := by
 subst h; unfold val4 wrd
 simp only [Nat.reducePow]
 omega
theorem words_of2 {a b N : Nat} (ha : a < 18446744073709551616) (hb : b < 18446744073709551616) (h : val2 a b = N) :
  wrd 1 N = a ∧ wrd 0 N = b := by
 subst h; unfold val2 wrd
 simp only [Nat.reducePow]
 omega
theorem or_add (k a b : Nat) (hb : b < 2 ^ k) : (2 ^ k * a) ||| b = 2 ^ k * a + b := (Nat.two_pow_add_eq_or_of_lt hb a).symm
theorem pq (s : Nat) (hs : s < 64) : 2 ^ s * 2 ^ (64 - s) = 18446744073709551616 := by
 rw [← Nat.pow_add, show s + (64 - s) = 64 by omega]
def blen (N : Nat) : Nat := if N = 0 then 0 else N.log2 + 1
theorem blen_le (N k : Nat) : blen N ≤ k ↔ N < 2 ^ k := by
 unfold blen
 split
 ·rename_i h; subst h; simp [Nat.pow_pos]
 ·rename_i h; rw [Nat.succ_le_iff]; exact Nat.log2_lt h
theorem blen_eq {N k : Nat} (h1 : 2 ^ k ≤ N) (h2 : N < 2 ^ (k + 1)) : blen N = k + 1 := by
 have a := (blen_le N (k + 1)).2 h2
 have b : ¬ blen N ≤ k := fun h => by have := (blen_le N k).1 h; omega
 omega
theorem blen_pow (N : Nat) (h : N ≠ 0) : 2 ^ (blen N - 1) ≤ N := by
 rcases Nat.lt_or_ge N (2 ^ (blen N - 1)) with h1 | h1
 ·have := (blen_le N (blen N - 1)).2 h1
  have h0 : blen N ≠ 0 := by unfold blen; simp [h]
  omega
 ·exact h1
theorem blen_lt (N : Nat) : N < 2 ^ blen N := (blen_le N _).1 (Nat.le_refl _)
theorem blen_up (N M t : Nat) (h : N ≠ 0) (hM : M < 2 ^ t) : blen (N * 2 ^ t + M) = t + blen N := by
 have h0 : blen N ≠ 0 := by unfold blen; simp [h]
 have h1 := blen_pow N h
 have h2 := blen_lt N
 have e : t + blen N = (t + (blen N - 1)) + 1 := by omega
 rw [e]
 refine blen_eq ?_ ?_
 ·rw [Nat.add_comm t, Nat.pow_add]
  have := Nat.mul_le_mul_right (2 ^ t) h1
  omega
 ·rw [show t + (blen N - 1) + 1 = blen N + t by omega, Nat.pow_add]
  have := Nat.mul_le_mul_right (2 ^ t) (show N + 1 ≤ 2 ^ blen N from h2)
  rw [Nat.succ_mul] at this
  omega
theorem blen_3 (a b c d : Nat) (ha : a ≠ 0) (hb : b < 18446744073709551616) (hc : c < 18446744073709551616) (hd : d < 18446744073709551616) : blen (val4 a b c d) = 192 + blen a := by
 have e : val4 a b c d = a * 2 ^ 192 + val4 0 b c d := by unfold val4; simp only [Nat.reducePow]; omega
 rw [e]
 exact blen_up _ _ _ ha (by unfold val4; simp only [Nat.reducePow]; omega)
theorem blen_2 (b c d : Nat) (hb : b ≠ 0) (hc : c < 18446744073709551616) (hd : d < 18446744073709551616) : blen (val4 0 b c d) = 128 + blen b := by
 have e : val4 0 b c d = b * 2 ^ 128 + val4 0 0 c d := by unfold val4; simp only [Nat.reducePow]; omega
 rw [e]
 exact blen_up _ _ _ hb (by unfold val4; simp only [Nat.reducePow]; omega)
theorem blen_1 (c d : Nat) (hc : c ≠ 0) (hd : d < 18446744073709551616) : blen (val4 0 0 c d) = 64 + blen c := by
 have e : val4 0 0 c d = c * 2 ^ 64 + d := by unfold val4; simp only [Nat.reducePow]; omega
 rw [e]
 exact blen_up _ _ _ hc (by simp only [Nat.reducePow]; omega)
theorem blen_0 (d : Nat) : blen (val4 0 0 0 d) = blen d := by
 have e : val4 0 0 0 d = d := by unfold val4; omega
 rw [e]
theorem bit_of (a b c d n : Nat) (hd : d < 18446744073709551616) (hc : c < 18446744073709551616) (hb : b < 18446744073709551616) :
  (n < 64 → d / 2 ^ n % 2 = val4 a b c d / 2 ^ n % 2) ∧ (n < 64 → c / 2 ^ n % 2 = val4 a b c d / 2 ^ (64 + n) % 2) ∧ (n < 64 → b / 2 ^ n % 2 = val4 a b c d / 2 ^ (128 + n) % 2) ∧ (n < 64 → a / 2 ^ n % 2 = val4 a b c d / 2 ^ (192 + n) % 2) := by
 have low : ∀ (N m : Nat), m < 64 → (N % 18446744073709551616) / 2 ^ m % 2 = N / 2 ^ m % 2 := by
  intro N m hm
  have e := pq m hm
  rw [← e, Nat.mod_mul_right_div_self, show 64 - m = (63 - m) + 1 by omega, Nat.pow_succ', Nat.mod_mul_right_mod]
 have e0 : val4 a b c d % 18446744073709551616 = d := by unfold val4; omega
 have e1 : val4 a b c d / 2 ^ 64 % 18446744073709551616 = c := by unfold val4; simp only [Nat.reducePow]; omega
 have e2 : val4 a b c d / 2 ^ 128 % 18446744073709551616 = b := by unfold val4; simp only [Nat.reducePow]; omega
 have e3 : val4 a b c d / 2 ^ 192 = a := by unfold val4; simp only [Nat.reducePow]; omega
 refine ⟨fun h => ?_, fun h => ?_, fun h => ?_, fun h => ?_⟩
 ·have z := low (val4 a b c d) n h
  rw [e0] at z
  exact z
 ·have z := low (val4 a b c d / 2 ^ 64) n h
  rw [e1, Nat.div_div_eq_div_mul, ← Nat.pow_add] at z
  exact z
 ·have z := low (val4 a b c d / 2 ^ 128) n h
  rw [e2, Nat.div_div_eq_div_mul, ← Nat.pow_add] at z
  exact z
 ·rw [Nat.pow_add, ← Nat.div_div_eq_div_mul, e3]
end Go.Proofs.Ytedfbamihjnhhaa.Plain
end
section
namespace Go.Proofs
open Go.Shelf
def Try.lays129_ren : Go.Shelf.Ren := ⟨fun | 129 => 125 | n => n, fun | 53 => 22 | 3 => 3 | 4 => 4 | 46 => 76 | 5 => 5 | 9 => 9 | n => n, fun | n => n⟩
theorem Try.lays129 : Go.Proofs.Lays.n129 Try.prog Try.lays129_ren := {
 mixed := by kernel_rfl
 f129 := Try.func125.trans (congrArg some (by kernel_rfl))
 t3 := Try.underlying3
 a3 := Try.isAgg3
 z3 := Try.sizeOf3
 v3 := Try.zeroValue3
 t4 := Try.underlying4
 a4 := Try.isAgg4
 z4 := Try.sizeOf4
 v4 := Try.zeroValue4
 t5 := Try.underlying5
 a5 := Try.isAgg5
 z5 := Try.sizeOf5
 v5 := Try.zeroValue5
 t9 := Try.underlying9
 a9 := Try.isAgg9
 z9 := Try.sizeOf9
 v9 := Try.zeroValue9
 t46 := Try.underlying76
 a46 := Try.isAgg76
 z46 := Try.sizeOf76
 v46 := Try.zeroValue76
 t53 := Try.underlying22
 a53 := Try.isAgg22
 z53 := Try.sizeOf22
 v53 := Try.zeroValue22 }
theorem Try.bits_Len64 (x : Int) (w : World) (h0 : 0 ≤ x) (h1 : x ≤ 18446744073709551615) :
  Calls Try.prog 125 #[.int .u64 x] w fun e w' => e = .returned (.int .i64 (Lib.bitLen x.toNat)) ∧ w' = w := Any.bits_Len64 Try.lays129 x w h0 h1
end Go.Proofs
end
section
namespace Go.Proofs.Ytedfbamihjnhhaa.Limb
set_option maxRecDepth 100000
open Go.RowKit Go.Proofs.Ytedfbamihjnhhaa.Plain
set_option linter.unusedVariables false
set_option linter.unusedSimpArgs false
def Wd (x : Int) : Prop := 0 ≤ x ∧ x < 18446744073709551616
instance (x : Int) : Decidable (Wd x) := by unfold Wd; infer_instance
theorem Wd.nat {x : Int} (h : Wd x) : ∃ n : Nat, x = (n : Int) ∧ n < 18446744073709551616 := by
 unfold Wd at h
 exact ⟨x.toNat, by omega, by omega⟩
theorem Wd.mk {n : Nat} (h : n < 18446744073709551616) : Wd (n : Int) := by unfold Wd; omega
def e4 (N : Nat) : Int × Int × Int × Int := ((wrd 3 N : Nat), (wrd 2 N : Nat), (wrd 1 N : Nat), (wrd 0 N : Nat))
def e2 (N : Nat) : Int × Int := ((wrd 1 N : Nat), (wrd 0 N : Nat))
def n4 (a b c d : Int) : Nat := val4 a.toNat b.toNat c.toNat d.toNat
def n2 (a b : Int) : Nat := val2 a.toNat b.toNat
theorem add64_run (x y c : Int) (hx : 0 ≤ x) (hy : 0 ≤ y) (hc0 : 0 ≤ c) (hc : c ≤ 1) (w : World) :
  (callFunc 96 #[.int .u64 x, .int .u64 y, .int .u64 c]).run Try.prog w = .ok (.value (.tuple #[.int .u64 ((x + y + c) % 18446744073709551616), .int .u64 ((x + y + c) / 18446744073709551616)])) w := by
 rw [run_callFunc_extern Try.func96 (by kernel_rfl) (by kernel_rfl) (by kernel_rfl) (e := add64Entry) (by kernel_rfl), run_add64 x y c hx hy hc0 hc]
 rfl
theorem sub64_run (x y b : Nat) (hb : b ≤ 1) (w : World) :
  (callFunc 98 #[.int .u64 x, .int .u64 y, .int .u64 b]).run Try.prog w = .ok (.value (.tuple #[.int .u64 (((x + 18446744073709551616 - y - b) % 18446744073709551616 : Nat) : Int), .int .u64 ((if x < y + b then 1 else 0 : Nat) : Int)])) w := by
 rw [run_callFunc_extern Try.func98 (by kernel_rfl) (by kernel_rfl) (by kernel_rfl) (e := Go.Proofs.sub64Entry) (by kernel_rfl), Go.Proofs.run_sub64 x y b hb]
 rfl
theorem sum_of (x y c : Int) (hx : 0 ≤ x) (hy : 0 ≤ y) (hc0 : 0 ≤ c) (hc : c ≤ 1) : ∃ s d, (x + y + c) % 18446744073709551616 = s ∧ (x + y + c) / 18446744073709551616 = d ∧ ∀ w, (callFunc 96 #[.int .u64 x, .int .u64 y, .int .u64 c]).run Try.prog w = .ok (.value (.tuple #[.int .u64 s, .int .u64 d])) w :=
 ⟨_, _, rfl, rfl, add64_run x y c hx hy hc0 hc⟩
theorem diff_of (x y b : Nat) (hb : b ≤ 1) : ∃ s d : Nat, (x + 18446744073709551616 - y - b) % 18446744073709551616 = s ∧ (if x < y + b then 1 else 0) = d ∧ d ≤ 1 ∧ ∀ w, (callFunc 98 #[.int .u64 x, .int .u64 y, .int .u64 b]).run Try.prog w = .ok (.value (.tuple #[.int .u64 (s : Int), .int .u64 (d : Int)])) w :=
 ⟨_, _, rfl, rfl, by split <;> decide, sub64_run x y b hb⟩
def limb_Add.f (a0_0 a0_1 a1_0 a1_1 : Int) : Option (Int × Int × Bool) :=
 if Wd a0_0 ∧ Wd a0_1 ∧ Wd a1_0 ∧ Wd a1_1 then some ((e2 (n2 a0_0 a0_1 + n2 a1_0 a1_1)).1, (e2 (n2 a0_0 a0_1 + n2 a1_0 a1_1)).2, decide (340282366920938463463374607431768211456 ≤ n2 a0_0 a0_1 + n2 a1_0 a1_1)) else none
theorem add_words (a b c d : Nat) (ha : a < 18446744073709551616) (hb : b < 18446744073709551616) (hc : c < 18446744073709551616) (hd : d < 18446744073709551616) (s u s2 u2 : Int)
  (hs : ((b : Int) + d + 0) % 18446744073709551616 = s) (hu : ((b : Int) + d + 0) / 18446744073709551616 = u) (hs2 : ((a : Int) + c + u) % 18446744073709551616 = s2) (hu2 : ((a : Int) + c + u) / 18446744073709551616 = u2) :
  s2 = ((wrd 1 (val2 a b + val2 c d) : Nat) : Int) ∧ s = ((wrd 0 (val2 a b + val2 c d) : Nat) : Int) ∧ decide (u2 > 0) = decide (340282366920938463463374607431768211456 ≤ val2 a b + val2 c d) := by
 subst hs hu hs2 hu2
 unfold val2 wrd
 simp only [Nat.reducePow]
 refine ⟨by omega, by omega, ?_⟩
 rw [decide_eq_decide]
 omega
set_option maxHeartbeats 4000000 in
theorem limb_Add.calls (a0_0 a0_1 a1_0 a1_1 : Int) (r1 r2 : Int) (r3 : Bool) (w : World) (h : limb_Add.f a0_0 a0_1 a1_0 a1_1 = some (r1, r2, r3)) :
  Calls Try.prog 66 #[.agg #[.int .u64 a0_0, .int .u64 a0_1], .agg #[.int .u64 a1_0, .int .u64 a1_1]] w fun e w' => e = .returned (.tuple #[.agg #[.int .u64 r1, .int .u64 r2], .bool r3]) ∧ Below w.heap.size w w' := by
 unfold limb_Add.f at h
 split at h
 ·rename_i hb
  obtain ⟨b1, b2, b3, b4⟩ := hb
  obtain ⟨a, rfl, la⟩ := b1.nat
  obtain ⟨b, rfl, lb⟩ := b2.nat
  obtain ⟨c, rfl, lc⟩ := b3.nat
  obtain ⟨d, rfl, ld⟩ := b4.nat
  obtain ⟨s, u, hs, hu, hr⟩ := sum_of b d 0 (by omega) (by omega) (by decide) (by decide)
  obtain ⟨s2, u2, hs2, hu2, hr2⟩ := sum_of a c u (by omega) (by omega) (by omega) (by omega)
  obtain ⟨z1, z2, z3⟩ := add_words a b c d la lb lc ld s u s2 u2 hs hu hs2 hu2
  simp only [n2, e2, Int.toNat_natCast, ← z1, ← z2, ← z3, Option.some.injEq, Prod.mk.injEq] at h
  obtain ⟨rfl, rfl, rfl⟩ := h
  have Z := Go.Lib.hid z3
  clear z1 z2 z3 hs hu hs2 hu2 la lb lc ld b1 b2 b3 b4
  have hu79 := Try.underlying79
  go_enter Try.func66, Try.ntmps66
  go_wp2
  refine bodyPost_ret (v := .tuple #[.agg #[.int .u64 s2, .int .u64 s], .bool (decide (u2 > 0))]) (by simp [results, Try.results66, go_sem]) rfl ⟨by rw [Z.out]; congr, ?_⟩
  go_grown
 ·exact absurd h (by simp)
def limb_Sub.f (a0_0 a0_1 a1_0 a1_1 : Int) : Option (Int × Int × Bool) :=
 if Wd a0_0 ∧ Wd a0_1 ∧ Wd a1_0 ∧ Wd a1_1 then some ((e2 (n2 a0_0 a0_1 + 340282366920938463463374607431768211456 - n2 a1_0 a1_1)).1, (e2 (n2 a0_0 a0_1 + 340282366920938463463374607431768211456 - n2 a1_0 a1_1)).2, decide (n2 a0_0 a0_1 < n2 a1_0 a1_1)) else none
theorem sub_words (a b c d : Nat) (ha : a < 18446744073709551616) (hb : b < 18446744073709551616) (hc : c < 18446744073709551616) (hd : d < 18446744073709551616) (s u s2 u2 : Nat)
  (hs : (b + 18446744073709551616 - d - 0) % 18446744073709551616 = s) (hu : (if b < d + 0 then 1 else 0) = u) (hs2 : (a + 18446744073709551616 - c - u) % 18446744073709551616 = s2) (hu2 : (if a < c + u then 1 else 0) = u2) :
  s2 = wrd 1 (val2 a b + 340282366920938463463374607431768211456 - val2 c d) ∧ s = wrd 0 (val2 a b + 340282366920938463463374607431768211456 - val2 c d) ∧ decide ((u2 : Int) > 0) = decide (val2 a b < val2 c d) := by
 unfold val2 wrd
 simp only [Nat.reducePow]
 refine ⟨?_, ?_, ?_⟩
 ·split at hu <;> omega
 ·split at hu <;> omega
 ·rw [decide_eq_decide]
  split at hu <;> split at hu2 <;> omega
set_option maxHeartbeats 4000000 in
theorem limb_Sub.calls (a0_0 a0_1 a1_0 a1_1 : Int) (r1 r2 : Int) (r3 : Bool) (w : World) (h : limb_Sub.f a0_0 a0_1 a1_0 a1_1 = some (r1, r2, r3)) :
  Calls Try.prog 69 #[.agg #[.int .u64 a0_0, .int .u64 a0_1], .agg #[.int .u64 a1_0, .int .u64 a1_1]] w fun e w' => e = .returned (.tuple #[.agg #[.int .u64 r1, .int .u64 r2], .bool r3]) ∧ Below w.heap.size w w' := by
 unfold limb_Sub.f at h
 split at h
 ·rename_i hb
  obtain ⟨b1, b2, b3, b4⟩ := hb
  obtain ⟨a, rfl, la⟩ := b1.nat
  obtain ⟨b, rfl, lb⟩ := b2.nat
  obtain ⟨c, rfl, lc⟩ := b3.nat
  obtain ⟨d, rfl, ld⟩ := b4.nat
  obtain ⟨s, u, hs, hu, lu, hr0⟩ := diff_of b d 0 (by decide)
  obtain ⟨s2, u2, hs2, hu2, lu2, hr2⟩ := diff_of a c u lu
  have hr : ∀ w, (callFunc 98 #[.int .u64 (b : Int), .int .u64 (d : Int), .int .u64 0]).run Try.prog w = .ok (.value (.tuple #[.int .u64 (s : Int), .int .u64 (u : Int)])) w := hr0
  clear hr0
  obtain ⟨z1, z2, z3⟩ := sub_words a b c d la lb lc ld s u s2 u2 hs hu hs2 hu2
  simp only [n2, e2, Int.toNat_natCast, ← z1, ← z2, ← z3, Option.some.injEq, Prod.mk.injEq] at h
  obtain ⟨rfl, rfl, rfl⟩ := h
  have Z := Go.Lib.hid z3
  clear z1 z2 z3 hs hu hs2 hu2 la lb lc ld b1 b2 b3 b4 lu lu2
  have hu79 := Try.underlying79
  go_enter Try.func69, Try.ntmps69
  go_wp2
  refine bodyPost_ret (v := .tuple #[.agg #[.int .u64 (s2 : Int), .int .u64 (s : Int)], .bool (decide ((u2 : Int) > 0))]) (by simp [results, Try.results69, go_sem]) rfl ⟨by rw [Z.out]; congr, ?_⟩
  go_grown
 ·exact absurd h (by simp)
theorem limb_four.calls0 (x0 x1 x2 x3 : Int) (w : World) :
  Calls Try.prog 150 #[.agg #[.int .u64 x0, .int .u64 x1, .int .u64 x2, .int .u64 x3]] w fun e w' => e = .returned (.agg #[.int .u64 x3, .int .u64 x2, .int .u64 x1, .int .u64 x0]) ∧ Below w.heap.size w w' := by
 have hu79 := Try.underlying79
 have hu86 := Try.underlying86
 have hu179 := Try.underlying179
 go_enter Try.func150, Try.ntmps150
 go_wp2
 refine bodyPost_ret (v := .agg #[.int .u64 x3, .int .u64 x2, .int .u64 x1, .int .u64 x0]) (by simp [results, Try.results150, go_sem]) rfl ⟨rfl, ?_⟩
 go_grown
theorem limb_list.calls0 (x0 x1 x2 x3 : Int) (w : World) :
  Calls Try.prog 148 #[.agg #[.int .u64 x3, .int .u64 x2, .int .u64 x1, .int .u64 x0]] w fun e w' => e = .returned (.agg #[.int .u64 x0, .int .u64 x1, .int .u64 x2, .int .u64 x3]) ∧ Below w.heap.size w w' := by
 have hu79 := Try.underlying79
 have hu86 := Try.underlying86
 have hu179 := Try.underlying179
 go_enter Try.func148, Try.ntmps148
 go_wp2
 refine bodyPost_ret (v := .agg #[.int .u64 x0, .int .u64 x1, .int .u64 x2, .int .u64 x3]) (by simp [results, Try.results148, go_sem]) rfl ⟨rfl, ?_⟩
 go_grown
end Go.Proofs.Ytedfbamihjnhhaa.Limb
end
