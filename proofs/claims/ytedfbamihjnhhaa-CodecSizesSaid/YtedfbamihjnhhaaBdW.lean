/- A walk by reckoning: strings.Builder, where it is the first part of codec's coder. -/
/- Plain laws of wide numbers: words, sums, products, shifts, lengths. -/
/-
  DERIVED: THE SHELF's CONTRACTS AT THIS DUMP, IN PLAIN WORDS (tools/lay-plain.mjs out of 'TryShelf.lean', which tools/lay-shelf.mjs wrote): THE SAME DECLARATIONS UNDER THE SAME NAMES: 'import', 'namespace', 'open', 'def', 'theorem' AND NOTHING ELSE: no command of the shelf's: FOR A HAND-IN. Each laying: the table of numbers ('.._ren') and one theorem, a field a fact of the dump's own or the kernel's comparison; each contract: ONE APPLICATION.
-/
/- Sum and difference of wide numbers, and their words: what the code computes. -/
/- strings.Builder as the first part of a struct of five cells: what its code does (walks after the shelf's ways). -/
import Derived.Test.YtedfbamihjnhhaaFvV
import Derived.Lib.Builder
import Derived.Lib.AppendStr
import Derived.Lib.UnsafeStr
import Derived.Shelf.Strconv.Itoa0
import Derived.Test.YtedfbamihjnhhaaProg
import Derived.Below
import Derived.Deep.Draws
import Derived.Deep.AppendLies
import Derived.Maps.AppendAt
import Derived.OwnWalk
import Derived.Laws.BytesArg
import Derived.Laws.MakeOwn
import Derived.Laws.OwnMore
import Derived.Deep.OwnRows
import Derived.Tactics
import Derived.Lib.ConvBytes
import Derived.Laws.Slices
import Derived.WalkKit
import Derived.KernelRfl
import Derived.RowKit3
import Derived.Deep.LoopGhost
import Derived.Deep.QuietTactic
import Derived.BigQuiet
import Derived.WideLaws
import Derived.Deep.DeepCutAuto
import Derived.Deep.CutBlock
import Derived.Deep.RegionHeld3
import Derived.Laws.Rows
import Derived.ArgAppend
import Derived.Laws.IdiomCopy
import Derived.OrdersHeld
import Derived.Laws.BitsLemmas
import Derived.RowKit
import Derived.Handy
import Derived.RegionTactic
import Derived.Laws.BitsAllLaws
import Derived.Laws.Externs
import Derived.Lib.Hide
import Derived.Shelf.Spec.BitsCarry
import Derived.Lib.Strings
import Derived.Lib.Slices
import Derived.Lib.Walk
section
namespace Go.Proofs.Ytedfbamihjnhhaa.Own
open Go Go.RowKit Go.Proofs
set_option linter.unusedVariables false
set_option linter.unusedSimpArgs false
set_option maxRecDepth 100000
def bCopy (vs : List V) (M : MB) (nx : Nat) : Option (V × MB × Nat) :=
 match vs with
 | [.one (.ptr k 0)] => (match lkB M k with
  | some (cs, T, false) => bif Nat.beq T 134 then (match cs with
   | [.nilp, b, i, g, d] => (match stB M k [.ptr k 0, b, i, g, d] with | some M' => some (.tup [], M', nx) | none => none)
   | [.ptr k' 0, b, i, g, d] => bif Nat.beq k' k then some (.tup [], M, nx) else none
   | _ => none) else none
  | _ => none)
 | _ => none
def bFirst (vs : List V) (M : MB) (nx : Nat) : Option (V × MB × Nat) :=
 match vs with
 | [.one (.ptr k 0), .one (.str s)] => (match lkB M k with
  | some (cs, T, false) => bif Nat.beq T 134 && (Nat.blt 0 s.size && Nat.ble s.size 1000000) then (match cs with
   | [.nilp, .nils, i, g, d] => (match stB M k [.ptr k 0, .sli nx (.lbs (s.data.toList.map UInt8.toNat)), i, g, d] with
    | some M' => some (.tup [.one (.int .i64 s.size), .one .nili], (nx, [.big (.lbs (s.data.toList.map UInt8.toNat)) [some .u8]], 5, true) :: M', nx + 1)
    | none => none)
   | _ => none) else none
  | _ => none)
 | _ => none
def closedL : SE → Option (List Nat)
 | .lnil => some []
 | .lbs l => some l
 | .lone (.cons (.lit .u8 (.ofNat n)) .nil) => some [n]
 | .lcat a b => (match closedL a, closedL b with | some x, some y => some (x ++ y) | _, _ => none)
 | _ => none
def neL : SE → Bool
 | .lbs (_ :: _) => true
 | .lone _ => true
 | .lcat a b => neL a || neL b
 | _ => false
def bStr (D : SE → Option Bool) (vs : List V) (M : MB) (nx : Nat) : Option (V × MB × Nat) :=
 match vs with
 | [.one (.ptr k 0)] => (match lkB M k with
  | some (cs, T, false) => bif Nat.beq T 134 then (match cs with
   | [_, .sli j x, _, _, _] => (match lkL M j, outB M j with
    | some (x', [some .u8], T'), some (_, M') => bif Nat.beq T' 5 && (decide (x = x') && (neL x && smX D x)) then
      some (.one (match closedL x with | some l => .str ⟨(l.map UInt8.ofNat).toArray⟩ | none => .sts x), M', nx) else none
    | _, _ => none)
   | _ => none) else none
  | _ => none)
 | _ => none
def bB (D : SE → Option Bool) : CallF := fun f vs M F nx =>
 bif Nat.beq f 110 then bCopy vs M nx else bif Nat.beq f 92 then bFirst vs M nx else bif Nat.beq f 94 then bStr D vs M nx else none
def bBW (f : Nat) : Bool := [110, 92, 94, 141, 93, 111, 112, 115, 133, 113, 116, 118, 122, 120, 134, 135, 136, 137, 114, 117, 119, 121, 123].any fun g => Nat.beq f g
end Go.Proofs.Ytedfbamihjnhhaa.Own
end
section
namespace Go.Proofs.Ytedfbamihjnhhaa.Plain
def val4 (a b c d : Nat) : Nat := ((a * 18446744073709551616 + b) * 18446744073709551616 + c) * 18446744073709551616 + d
def val2 (a b : Nat) : Nat := a * 18446744073709551616 + b
def wrd (i N : Nat) : Nat := N / 18446744073709551616 ^ i % 18446744073709551616
theorem wrd_lt (i N : Nat) : wrd i N < 18446744073709551616 := Nat.mod_lt _ (by decide)
theorem val4_lt {a b c d : Nat} (ha : a < 18446744073709551616) (hb : b < 18446744073709551616) (hc : c < 18446744073709551616) (hd : d < 18446744073709551616) : val4 a b c d < 115792089237316195423570985008687907853269984665640564039457584007913129639936 := by
 unfold val4; omega
theorem val2_lt {a b : Nat} (ha : a < 18446744073709551616) (hb : b < 18446744073709551616) : val2 a b < 340282366920938463463374607431768211456 := by
 unfold val2; omega
theorem words_of4 {a b c d N : Nat} (ha : a < 18446744073709551616) (hb : b < 18446744073709551616) (hc : c < 18446744073709551616) (hd : d < 18446744073709551616) (h : val4 a b c d = N) :
  wrd 3 N = a ∧ wrd 2 N = b ∧ wrd 1 N = c ∧ wrd 0 N = d := by
 subst h; unfold val4 wrd
 simp only [Nat.reducePow]
 omega
theorem words_of2 {a b N : Nat} (ha : a < 18446744073709551616) (hb : b < 18446744073709551616) (h : val2 a b = N) :
  wrd 1 N = a ∧ wrd 0 N = b := by
 subst h; unfold val2 wrd
 simp only [Nat.reducePow]
 omega
theorem or_add (k a b : Nat) (hb : b < 2 ^ k) : (2 ^ k * a) ||| b = 2 ^ k * a + b := (Nat.two_pow_add_eq_or_of_lt hb a).symm
theorem pq (s : Nat) (hs : s < 64) : 2 ^ s * 2 ^ (64 - s) = 18446744073709551616 := by
 rw [← Nat.pow_add, show s + (64 - s) = 64 by omega]
def blen (N : Nat) : Nat := if N = 0 then 0 else N.log2 + 1
theorem blen_le (N k : Nat) : blen N ≤ k ↔ N < 2 ^ k := by
 unfold blen
 split
 ·rename_i h; subst h; simp [Nat.pow_pos]
 ·rename_i h; rw [Nat.succ_le_iff]; exact Nat.log2_lt h
theorem blen_eq {N k : Nat} (h1 : 2 ^ k ≤ N) (h2 : N < 2 ^ (k + 1)) : blen N = k + 1 := by
 have a := (blen_le N (k + 1)).2 h2
 have b : ¬ blen N ≤ k := fun h => by have := (blen_le N k).1 h; omega
 omega
theorem blen_pow (N : Nat) (h : N ≠ 0) : 2 ^ (blen N - 1) ≤ N := by
 rcases Nat.lt_or_ge N (2 ^ (blen N - 1)) with h1 | h1
 ·have := (blen_le N (blen N - 1)).2 h1
  have h0 : blen N ≠ 0 := by unfold blen; simp [h]
  omega
 ·exact h1
theorem blen_lt (N : Nat) : N < 2 ^ blen N := (blen_le N _).1 (Nat.le_refl _)
theorem blen_up (N M t : Nat) (h : N ≠ 0) (hM : M < 2 ^ t) : blen (N * 2 ^ t + M) = t + blen N := by
 have h0 : blen N ≠ 0 := by unfold blen; simp [h]
 have h1 := blen_pow N h
 have h2 := blen_lt N
 have e : t + blen N = (t + (blen N - 1)) + 1 := by omega
 rw [e]
 refine blen_eq ?_ ?_
 ·rw [Nat.add_comm t, Nat.pow_add]
  have := Nat.mul_le_mul_right (2 ^ t) h1
  omega
 ·rw [show t + (blen N - 1) + 1 = blen N + t by omega, Nat.pow_add]
  have := Nat.mul_le_mul_right (2 ^ t) (show N + 1 ≤ 2 ^ blen N from h2)
  rw [Nat.succ_mul] at this
  omega
theorem blen_3 (a b c d : Nat) (ha : a ≠ 0) (hb : b < 18446744073709551616) (hc : c < 18446744073709551616) (hd : d < 18446744073709551616) : blen (val4 a b c d) = 192 + blen a := by
 have e : val4 a b c d = a * 2 ^ 192 + val4 0 b c d := by unfold val4; simp only [Nat.reducePow]; omega
 rw [e]
 exact blen_up _ _ _ ha (by unfold val4; simp only [Nat.reducePow]; omega)
theorem blen_2 (b c d : Nat) (hb : b ≠ 0) (hc : c < 18446744073709551616) (hd : d < 18446744073709551616) : blen (val4 0 b c d) = 128 + blen b := by
 have e : val4 0 b c d = b * 2 ^ 128 + val4 0 0 c d := by unfold val4; simp only [Nat.reducePow]; omega
 rw [e]
 exact blen_up _ _ _ hb (by unfold val4; simp only [Nat.reducePow]; omega)
theorem blen_1 (c d : Nat) (hc : c ≠ 0) (hd : d < 18446744073709551616) : blen (val4 0 0 c d) = 64 + blen c := by
 have e : val4 0 0 c d = c * 2 ^ 64 + d := by unfold val4; simp only [Nat.reducePow]; omega
 rw [e]
 exact blen_up _ _ _ hc (by simp only [Nat.reducePow]; omega)
theorem blen_0 (d : Nat) : blen (val4 0 0 0 d) = blen d := by
 have e : val4 0 0 0 d = d := by unfold val4; omega
 rw [e]
theorem bit_of (a b c d n : Nat) (hd : d < 18446744073709551616) (hc : c < 18446744073709551616) (hb : b < 18446744073709551616) :
  (n < 64 → d / 2 ^ n % 2 = val4 a b c d / 2 ^ n % 2) ∧ (n < 64 → c / 2 ^ n % 2 = val4 a b c d / 2 ^ (64 + n) % 2) ∧ (n < 64 → b / 2 ^ n % 2 = val4 a b c d / 2 ^ (128 + n) % 2) ∧ (n < 64 → a / 2 ^ n % 2 = val4 a b c d / 2 ^ (192 + n) % 2) := by
 have low : ∀ (N m : Nat), m < 64 → (N % 18446744073709551616) / 2 ^ m % 2 = N / 2 ^ m % 2 := by
  intro N m hm
  have e := pq m hm
  rw [← e, Nat.mod_mul_right_div_self, show 64 - m = (63 - m) + 1 by omega, Nat.pow_succ', Nat.mod_mul_right_mod]
 have e0 : val4 a b c d % 18446744073709551616 = d := by unfold val4; omega
 have e1 : val4 a b c d / 2 ^ 64 % 18446744073709551616 = c := by unfold val4; simp only [Nat.reducePow]; omega
 have e2 : val4 a b c d / 2 ^ 128 % 18446744073709551616 = b := by unfold val4; simp only [Nat.reducePow]; omega
 have e3 : val4 a b c d / 2 ^ 192 = a := by unfold val4; simp only [Nat.reducePow]; omega
 refine ⟨fun h => ?_, fun h => ?_, fun h => ?_, fun h => ?_⟩
 ·have z := low (val4 a b c d) n h
  rw [e0] at z
  exact z
 ·have z := low (val4 a b c d / 2 ^ 64) n h
  rw [e1, Nat.div_div_eq_div_mul, ← Nat.pow_add] at z
  exact z
 ·have z := low (val4 a b c d / 2 ^ 128) n h
  rw [e2, Nat.div_div_eq_div_mul, ← Nat.pow_add] at z
  exact z
 ·rw [Nat.pow_add, ← Nat.div_div_eq_div_mul, e3]
end Go.Proofs.Ytedfbamihjnhhaa.Plain
end
section
namespace Go.Proofs
open Go.Shelf
def Try.lays129_ren : Go.Shelf.Ren := ⟨fun | 129 => 125 | n => n, fun | 53 => 22 | 3 => 3 | 4 => 4 | 46 => 76 | 5 => 5 | 9 => 9 | n => n, fun | n => n⟩
theorem Try.lays129 : Go.Proofs.Lays.n129 Try.prog Try.lays129_ren := {
 mixed := by kernel_rfl
 f129 := Try.func125.trans (congrArg some (by kernel_rfl))
 t3 := Try.underlying3
 a3 := Try.isAgg3
 z3 := Try.sizeOf3
 v3 := Try.zeroValue3
 t4 := Try.underlying4
 a4 := Try.isAgg4
 z4 := Try.sizeOf4
 v4 := Try.zeroValue4
 t5 := Try.underlying5
 a5 := Try.isAgg5
 z5 := Try.sizeOf5
 v5 := Try.zeroValue5
 t9 := Try.underlying9
 a9 := Try.isAgg9
 z9 := Try.sizeOf9
 v9 := Try.zeroValue9
 t46 := Try.underlying76
 a46 := Try.isAgg76
 z46 := Try.sizeOf76
 v46 := Try.zeroValue76
 t53 := Try.underlying22
 a53 := Try.isAgg22
 z53 := Try.sizeOf22
 v53 := Try.zeroValue22 }
theorem Try.bits_Len64 (x : Int) (w : World) (h0 : 0 ≤ x) (h1 : x ≤ 18446744073709551615) :
  Calls Try.prog 125 #[.int .u64 x] w fun e w' => e = .returned (.int .i64 (Lib.bitLen x.toNat)) ∧ w' = w := Any.bits_Len64 Try.lays129 x w h0 h1
end Go.Proofs
end
section
namespace Go.Proofs.Ytedfbamihjnhhaa.Limb
set_option maxRecDepth 100000
open Go.RowKit Go.Proofs.Ytedfbamihjnhhaa.Plain
set_option linter.unusedVariables false
set_option linter.unusedSimpArgs false
def Wd (x : Int) : Prop := 0 ≤ x ∧ x < 18446744073709551616
instance (x : Int) : Decidable (Wd x) := by unfold Wd; infer_instance
theorem Wd.nat {x : Int} (h : Wd x) : ∃ n : Nat, x = (n : Int) ∧ n < 18446744073709551616 := by
 unfold Wd at h
 exact ⟨x.toNat, by omega, by omega⟩
theorem Wd.mk {n : Nat} (h : n < 18446744073709551616) : Wd (n : Int) := by unfold Wd; omega
def e4 (N : Nat) : Int × Int × Int × Int := ((wrd 3 N : Nat), (wrd 2 N : Nat), (wrd 1 N : Nat), (wrd 0 N : Nat))
def e2 (N : Nat) : Int × Int := ((wrd 1 N : Nat), (wrd 0 N : Nat))
def n4 (a b c d : Int) : Nat := val4 a.toNat b.toNat c.toNat d.toNat
def n2 (a b : Int) : Nat := val2 a.toNat b.toNat
theorem add64_run (x y c : Int) (hx : 0 ≤ x) (hy : 0 ≤ y) (hc0 : 0 ≤ c) (hc : c ≤ 1) (w : World) :
  (callFunc 96 #[.int .u64 x, .int .u64 y, .int .u64 c]).run Try.prog w = .ok (.value (.tuple #[.int .u64 ((x + y + c) % 18446744073709551616), .int .u64 ((x + y + c) / 18446744073709551616)])) w := by
 rw [run_callFunc_extern Try.func96 (by kernel_rfl) (by kernel_rfl) (by kernel_rfl) (e := add64Entry) (by kernel_rfl), run_add64 x y c hx hy hc0 hc]
 rfl
theorem sub64_run (x y b : Nat) (hb : b ≤ 1) (w : World) :
  (callFunc 98 #[.int .u64 x, .int .u64 y, .int .u64 b]).run Try.prog w = .ok (.value (.tuple #[.int .u64 (((x + 18446744073709551616 - y - b) % 18446744073709551616 : Nat) : Int), .int .u64 ((if x < y + b then 1 else 0 : Nat) : Int)])) w := by
 rw [run_callFunc_extern Try.func98 (by kernel_rfl) (by kernel_rfl) (by kernel_rfl) (e := Go.Proofs.sub64Entry) (by kernel_rfl), Go.Proofs.run_sub64 x y b hb]
 rfl
theorem sum_of (x y c : Int) (hx : 0 ≤ x) (hy : 0 ≤ y) (hc0 : 0 ≤ c) (hc : c ≤ 1) : ∃ s d, (x + y + c) % 18446744073709551616 = s ∧ (x + y + c) / 18446744073709551616 = d ∧ ∀ w, (callFunc 96 #[.int .u64 x, .int .u64 y, .int .u64 c]).run Try.prog w = .ok (.value (.tuple #[.int .u64 s, .int .u64 d])) w :=
 ⟨_, _, rfl, rfl, add64_run x y c hx hy hc0 hc⟩
theorem diff_of (x y b : Nat) (hb : b ≤ 1) : ∃ s d : Nat, (x + 18446744073709551616 - y - b) % 18446744073709551616 = s ∧ (if x < y + b then 1 else 0) = d ∧ d ≤ 1 ∧ ∀ w, (callFunc 98 #[.int .u64 x, .int .u64 y, .int .u64 b]).run Try.prog w = .ok (.value (.tuple #[.int .u64 (s : Int), .int .u64 (d : Int)])) w :=
 ⟨_, _, rfl, rfl, by split <;> decide, sub64_run x y b hb⟩
def limb_Add.f (a0_0 a0_1 a1_0 a1_1 : Int) : Option (Int × Int × Bool) :=
 if Wd a0_0 ∧ Wd a0_1 ∧ Wd a1_0 ∧ Wd a1_1 then some ((e2 (n2 a0_0 a0_1 + n2 a1_0 a1_1)).1, (e2 (n2 a0_0 a0_1 + n2 a1_0 a1_1)).2, decide (340282366920938463463374607431768211456 ≤ n2 a0_0 a0_1 + n2 a1_0 a1_1)) else none
theorem add_words (a b c d : Nat) (ha : a < 18446744073709551616) (hb : b < 18446744073709551616) (hc : c < 18446744073709551616) (hd : d < 18446744073709551616) (s u s2 u2 : Int)
  (hs : ((b : Int) + d + 0) % 18446744073709551616 = s) (hu : ((b : Int) + d + 0) / 18446744073709551616 = u) (hs2 : ((a : Int) + c + u) % 18446744073709551616 = s2) (hu2 : ((a : Int) + c + u) / 18446744073709551616 = u2) :
  s2 = ((wrd 1 (val2 a b + val2 c d) : Nat) : Int) ∧ s = ((wrd 0 (val2 a b + val2 c d) : Nat) : Int) ∧ decide (u2 > 0) = decide (340282366920938463463374607431768211456 ≤ val2 a b + val2 c d) := by
 subst hs hu hs2 hu2
 unfold val2 wrd
 simp only [Nat.reducePow]
 refine ⟨by omega, by omega, ?_⟩
 rw [decide_eq_decide]
 omega
set_option maxHeartbeats 4000000 in
theorem limb_Add.calls (a0_0 a0_1 a1_0 a1_1 : Int) (r1 r2 : Int) (r3 : Bool) (w : World) (h : limb_Add.f a0_0 a0_1 a1_0 a1_1 = some (r1, r2, r3)) :
  Calls Try.prog 66 #[.agg #[.int .u64 a0_0, .int .u64 a0_1], .agg #[.int .u64 a1_0, .int .u64 a1_1]] w fun e w' => e = .returned (.tuple #[.agg #[.int .u64 r1, .int .u64 r2], .bool r3]) ∧ Below w.heap.size w w' := by
 unfold limb_Add.f at h
 split at h
 ·rename_i hb
  obtain ⟨b1, b2, b3, b4⟩ := hb
  obtain ⟨a, rfl, la⟩ := b1.nat
  obtain ⟨b, rfl, lb⟩ := b2.nat
  obtain ⟨c, rfl, lc⟩ := b3.nat
  obtain ⟨d, rfl, ld⟩ := b4.nat
  obtain ⟨s, u, hs, hu, hr⟩ := sum_of b d 0 (by omega) (by omega) (by decide) (by decide)
  obtain ⟨s2, u2, hs2, hu2, hr2⟩ := sum_of a c u (by omega) (by omega) (by omega) (by omega)
  obtain ⟨z1, z2, z3⟩ := add_words a b c d la lb lc ld s u s2 u2 hs hu hs2 hu2
  simp only [n2, e2, Int.toNat_natCast, ← z1, ← z2, ← z3, Option.some.injEq, Prod.mk.injEq] at h
  obtain ⟨rfl, rfl, rfl⟩ := h
  have Z := Go.Lib.hid z3
  clear z1 z2 z3 hs hu hs2 hu2 la lb lc ld b1 b2 b3 b4
  have hu79 := Try.underlying79
  go_enter Try.func66, Try.ntmps66
  go_wp2
  refine bodyPost_ret (v := .tuple #[.agg #[.int .u64 s2, .int .u64 s], .bool (decide (u2 > 0))]) (by simp [results, Try.results66, go_sem]) rfl ⟨by rw [Z.out]; congr, ?_⟩
  go_grown
 ·exact absurd h (by simp)
def limb_Sub.f (a0_0 a0_1 a1_0 a1_1 : Int) : Option (Int × Int × Bool) :=
 if Wd a0_0 ∧ Wd a0_1 ∧ Wd a1_0 ∧ Wd a1_1 then some ((e2 (n2 a0_0 a0_1 + 340282366920938463463374607431768211456 - n2 a1_0 a1_1)).1, (e2 (n2 a0_0 a0_1 + 340282366920938463463374607431768211456 - n2 a1_0 a1_1)).2, decide (n2 a0_0 a0_1 < n2 a1_0 a1_1)) else none
theorem sub_words (a b c d : Nat) (ha : a < 18446744073709551616) (hb : b < 18446744073709551616) (hc : c < 18446744073709551616) (hd : d < 18446744073709551616) (s u s2 u2 : Nat)
  (hs : (b + 18446744073709551616 - d - 0) % 18446744073709551616 = s) (hu : (if b < d + 0 then 1 else 0) = u) (hs2 : (a + 18446744073709551616 - c - u) % 18446744073709551616 = s2) (hu2 : (if a < c + u then 1 else 0) = u2) :
  s2 = wrd 1 (val2 a b + 340282366920938463463374607431768211456 - val2 c d) ∧ s = wrd 0 (val2 a b + 340282366920938463463374607431768211456 - val2 c d) ∧ decide ((u2 : Int) > 0) = decide (val2 a b < val2 c d) := by
 unfold val2 wrd
 simp only [Nat.reducePow]
 refine ⟨?_, ?_, ?_⟩
 ·split at hu <;> omega
 ·split at hu <;> omega
 ·rw [decide_eq_decide]
  split at hu <;> split at hu2 <;> omega
set_option maxHeartbeats 4000000 in
theorem limb_Sub.calls (a0_0 a0_1 a1_0 a1_1 : Int) (r1 r2 : Int) (r3 : Bool) (w : World) (h : limb_Sub.f a0_0 a0_1 a1_0 a1_1 = some (r1, r2, r3)) :
  Calls Try.prog 69 #[.agg #[.int .u64 a0_0, .int .u64 a0_1], .agg #[.int .u64 a1_0, .int .u64 a1_1]] w fun e w' => e = .returned (.tuple #[.agg #[.int .u64 r1, .int .u64 r2], .bool r3]) ∧ Below w.heap.size w w' := by
 unfold limb_Sub.f at h
 split at h
 ·rename_i hb
  obtain ⟨b1, b2, b3, b4⟩ := hb
  obtain ⟨a, rfl, la⟩ := b1.nat
  obtain ⟨b, rfl, lb⟩ := b2.nat
  obtain ⟨c, rfl, lc⟩ := b3.nat
  obtain ⟨d, rfl, ld⟩ := b4.nat
  obtain ⟨s, u, hs, hu, lu, hr0⟩ := diff_of b d 0 (by decide)
  obtain ⟨s2, u2, hs2, hu2, lu2, hr2⟩ := diff_of a c u lu
  have hr : ∀ w, (callFunc 98 #[.int .u64 (b : Int), .int .u64 (d : Int), .int .u64 0]).run Try.prog w = .ok (.value (.tuple #[.int .u64 (s : Int), .int .u64 (u : Int)])) w := hr0
  clear hr0
  obtain ⟨z1, z2, z3⟩ := sub_words a b c d la lb lc ld s u s2 u2 hs hu hs2 hu2
  simp only [n2, e2, Int.toNat_natCast, ← z1, ← z2, ← z3, Option.some.injEq, Prod.mk.injEq] at h
  obtain ⟨rfl, rfl, rfl⟩ := h
  have Z := Go.Lib.hid z3
  clear z1 z2 z3 hs hu hs2 hu2 la lb lc ld b1 b2 b3 b4 lu lu2
  have hu79 := Try.underlying79
  go_enter Try.func69, Try.ntmps69
  go_wp2
  refine bodyPost_ret (v := .tuple #[.agg #[.int .u64 (s2 : Int), .int .u64 (s : Int)], .bool (decide ((u2 : Int) > 0))]) (by simp [results, Try.results69, go_sem]) rfl ⟨by rw [Z.out]; congr, ?_⟩
  go_grown
 ·exact absurd h (by simp)
theorem limb_four.calls0 (x0 x1 x2 x3 : Int) (w : World) :
  Calls Try.prog 150 #[.agg #[.int .u64 x0, .int .u64 x1, .int .u64 x2, .int .u64 x3]] w fun e w' => e = .returned (.agg #[.int .u64 x3, .int .u64 x2, .int .u64 x1, .int .u64 x0]) ∧ Below w.heap.size w w' := by
 have hu79 := Try.underlying79
 have hu86 := Try.underlying86
 have hu179 := Try.underlying179
 go_enter Try.func150, Try.ntmps150
 go_wp2
 refine bodyPost_ret (v := .agg #[.int .u64 x3, .int .u64 x2, .int .u64 x1, .int .u64 x0]) (by simp [results, Try.results150, go_sem]) rfl ⟨rfl, ?_⟩
 go_grown
theorem limb_list.calls0 (x0 x1 x2 x3 : Int) (w : World) :
  Calls Try.prog 148 #[.agg #[.int .u64 x3, .int .u64 x2, .int .u64 x1, .int .u64 x0]] w fun e w' => e = .returned (.agg #[.int .u64 x0, .int .u64 x1, .int .u64 x2, .int .u64 x3]) ∧ Below w.heap.size w w' := by
 have hu79 := Try.underlying79
 have hu86 := Try.underlying86
 have hu179 := Try.underlying179
 go_enter Try.func148, Try.ntmps148
 go_wp2
 refine bodyPost_ret (v := .agg #[.int .u64 x0, .int .u64 x1, .int .u64 x2, .int .u64 x3]) (by simp [results, Try.results148, go_sem]) rfl ⟨rfl, ?_⟩
 go_grown
end Go.Proofs.Ytedfbamihjnhhaa.Limb
end
section
set_option linter.unusedVariables false
namespace Go.Proofs.Ytedfbamihjnhhaa.Bd
open Go Go.RowKit Go.Proofs
set_option maxRecDepth 100000
set_option maxHeartbeats 1000000 in
theorem copy_used (b : Nat) (w : World) (h0 : w.cell? ⟨b, 0, none⟩ = some (.pointer (some ⟨b, 0, none⟩))) :
  Calls Try.prog 110 #[.pointer (some ⟨b, 0, none⟩)] w fun e w' => e = .returned (.tuple #[]) ∧ w' = w := by
 obtain ⟨j, hj⟩ : ∃ j, Try.prog.info? 132 = some j := ⟨_, rfl⟩
 go_enter Try.func110, Try.ntmps110
 go_wp2
 rw [Lib.run_neq_ptr_same w _ (Try.underlying130) hj]
 go_wp2
 go_end0
 exact ⟨rfl, rfl⟩
set_option maxHeartbeats 1000000 in
theorem copy_fresh (b : Nat) (w : World) (h0 : w.cell? ⟨b, 0, none⟩ = some (.pointer none)) (hsh : w.shape? b = some (134, 5)) (hfz : w.frozen? ⟨b, 0, none⟩ = false) :
  Calls Try.prog 110 #[.pointer (some ⟨b, 0, none⟩)] w fun e w' => e = .returned (.tuple #[]) ∧ w' = w.setCell ⟨b, 0, none⟩ (.pointer (some ⟨b, 0, none⟩)) := by
 obtain ⟨j, hj, hjs⟩ : ∃ j, Try.prog.info? 132 = some j ∧ j.size ≠ 0 := ⟨_, rfl, by decide⟩
 go_enter Try.func110, Try.ntmps110
 go_wp2
 rw [Lib.run_to_unsafe w ⟨b, 0, none⟩ Try.underlying130 Try.underlying185 hj hjs hsh (Nat.zero_lt_succ 4)]
 simp only [Result.andThen]
 rw [Oper.upon_value]
 go_wp2
 rw [run_callFunc_extern Try.func132 (by kernel_rfl) (by kernel_rfl) (by kernel_rfl) (e := Extern.AbiNoEscape.same) (by kernel_rfl)]
 rw [Lib.run_noEscape]
 simp only [Result.andThen]
 rw [Oper.upon_value]
 go_wp2
 rw [Lib.run_from_unsafe w ⟨b, 0, none⟩ Try.underlying185 Try.underlying130 hj hsh (by kernel_rfl)]
 simp only [Result.andThen]
 rw [Oper.upon_value]
 go_wp2
 go_end0
 exact ⟨rfl, rfl⟩
theorem setc_heap {b j : Nat} {cs : Array Value} {T : TypeId} {w : World} (v : Value) (hbk : w.heap[b]? = some (.cells cs T (0, 0))) : (w.setCell ⟨b, j, none⟩ v).heap[b]? = some (.cells (cs.setIfInBounds j v) T (0, 0)) := by
 simp [World.setCell, Array.getElem?_modify, hbk]
set_option maxHeartbeats 2000000 in
theorem first_run (b : Nat) (s : ByteArray) (i g d : Value) (w : World) (hbk : w.heap[b]? = some (.cells #[.pointer none, .slice none 0 0, i, g, d] 134 (0, 0))) (hlen : s.size ≤ 1000000) :
  Calls Try.prog 92 #[.pointer (some ⟨b, 0, none⟩), .string s] w fun e w' => e = .returned (.tuple #[.int .i64 s.size, .nilIface]) ∧
   ∃ v' w2, w2.ownsRow w.heap.size 5 1 v' s.size (Lib.strCells s) ∧ (w.setCell ⟨b, 0, none⟩ (.pointer (some ⟨b, 0, none⟩))).grownBy w2 none ∧ (v' = .slice none 0 0 ↔ s.size = 0) ∧ w' = w2.setCell ⟨b, 1, none⟩ v' := by
 have h0 : w.cell? ⟨b, 0, none⟩ = some (.pointer none) := by rw [Lib.cell_of_heap hbk]; rfl
 have hsh : w.shape? b = some (134, 5) := by simp [World.shape?, hbk]
 have hfz : w.frozen? ⟨b, 0, none⟩ = false := Lib.frozen_of_heap hbk 0
 have hlt : b < w.heap.size := by
  rcases Nat.lt_or_ge b w.heap.size with h' | h'
  ·exact h'
  ·simp [Array.getElem?_eq_none h'] at hbk
 obtain ⟨i0, hi, hz0, hz1, hz2⟩ : ∃ i0, Try.prog.info? 5 = some i0 ∧ i0.zero = some (.int .u8 0) ∧ i0.size = 1 ∧ i0.bytes = 1 := ⟨_, rfl, rfl, rfl, rfl⟩
 go_enter Try.func92, Try.ntmps92
 go_wp2_with (go_at_call 110; refine (copy_fresh b _ h0 hsh hfz).mono ?_)
 rintro e w1 ⟨rfl, rfl⟩
 have hb1 : (w.setCell ⟨b, 0, none⟩ (.pointer (some ⟨b, 0, none⟩))).heap[b]? = some (.cells #[.pointer (some ⟨b, 0, none⟩), .slice none 0 0, i, g, d] 134 (0, 0)) := by
  rw [setc_heap _ hbk]; rfl
 have hs1 : (w.setCell ⟨b, 0, none⟩ (.pointer (some ⟨b, 0, none⟩))).heap.size = w.heap.size := by simp [World.setCell]
 generalize hw1 : w.setCell ⟨b, 0, none⟩ (.pointer (some ⟨b, 0, none⟩)) = w1 at hb1 hs1 ⊢
 have c0 : w1.cell? ⟨b, 0, none⟩ = some (.pointer (some ⟨b, 0, none⟩)) := by rw [Lib.cell_of_heap hb1]; rfl
 have c1 : w1.cell? ⟨b, 1, none⟩ = some (.slice none 0 0) := by rw [Lib.cell_of_heap hb1]; rfl
 go_wp2_with (at_builtin; refine Lib.wpList_append_own_string _ rfl _ _ 49 9 rfl w.heap.size 5 i0 Try.underlying49 Try.underlying9 hi hz0 hz1 hz2 _ _ _ rfl (World.ownsRow_nil _ _ _ _) s rfl ?c3 ?c4 ?c5 ?_)
 case c3 => unfold maxLen; omega
 case c4 => omega
 case c5 => omega
 intro v' w2 hown' hgrow hnil
 have hb2 : w2.heap[b]? = some (.cells #[.pointer (some ⟨b, 0, none⟩), .slice none 0 0, i, g, d] 134 (0, 0)) := by
  rw [hgrow.block b (by omega) (by simp [Value.ownBlock])]
  exact hb1
 have d0 : w2.cell? ⟨b, 0, none⟩ = some (.pointer (some ⟨b, 0, none⟩)) := by rw [Lib.cell_of_heap hb2]; rfl
 have d1 : w2.cell? ⟨b, 1, none⟩ = some (.slice none 0 0) := by rw [Lib.cell_of_heap hb2]; rfl
 have f1 : w2.frozen? ⟨b, 1, none⟩ = false := Lib.frozen_of_heap hb2 1
 have hnil' : v' = .slice none 0 0 ↔ s.size = 0 := by simpa using hnil
 obtain ⟨ao, n', cap, rfl⟩ : ∃ ao n' cap, v' = .slice ao n' cap := by
  rcases hown'.2 with ⟨hv, _⟩ | ⟨g, cap, cur, hv, _⟩
  ·exact ⟨_, _, _, hv⟩
  ·exact ⟨_, _, _, hv⟩
 go_wp2
 go_ret2
 exact ⟨rfl, _, w2, hown', by rw [hw1]; exact hgrow, hnil', rfl⟩
theorem frz_other {w : World} {g n k : Nat} (h : k ≠ g) : (w.drew.freeze ⟨g, 0, none⟩ n).heap[k]? = w.heap[k]? := by
 simp only [World.freeze, World.drew]
 first
  | (split <;> simp_all [Array.getElem?_modify, Ne.symm h]; done)
  | (simp [Array.getElem?_modify, Ne.symm h]; done)
set_option maxHeartbeats 2000000 in
theorem str_run (b g cap : Nat) (p : Value) (i gt d : Value) (l : List UInt8) (cur : Array Value) (w : World) (h0 : l ≠ []) (hbk : w.heap[b]? = some (.cells #[p, .slice (some ⟨g, 0, none⟩) l.length cap, i, gt, d] 134 (0, 0)))
  (hg : w.heap[g]? = some (.cells cur 5 (0, 0))) (hnc : l.length ≤ cap) (hcm : cap ≤ maxLen) (hcs : cur.size = cap) (htake : cur.toList.take l.length = Lib.byteCells l) :
  Calls Try.prog 94 #[.pointer (some ⟨b, 0, none⟩)] w fun e w' => e = .returned (.string ⟨l.toArray⟩) ∧ w' = w.drew.freeze ⟨g, 0, none⟩ l.length := by
 have hl0 : l.length ≠ 0 := by simpa using h0
 have c1 : w.drew.cell? ⟨b, 1, none⟩ = some (.slice (some ⟨g, 0, none⟩) l.length cap) := by
  have : w.drew.heap[b]? = some (.cells #[p, .slice (some ⟨g, 0, none⟩) l.length cap, i, gt, d] 134 (0, 0)) := hbk
  rw [Lib.cell_of_heap this]; rfl
 have hSD : (Builtin.unsafeSliceData_ #[49] 178 #[.slice (some ⟨g, 0, none⟩) l.length cap]).run Try.prog w.drew = .ok (.pointer (some ⟨g, 0, none⟩)) w.drew :=
  Lib.run_unsafeSliceData_row _ _ _ _ _ _ (by omega)
 have hUS : (Builtin.unsafeString_ #[178, 3] 9 #[.pointer (some ⟨g, 0, none⟩), .int .i64 l.length]).run Try.prog w.drew = .ok (.string ⟨l.toArray⟩) (w.drew.freeze ⟨g, 0, none⟩ l.length) := by
  refine Lib.run_unsafeString_row w.drew 178 3 9 5 Try.underlying178 (by kernel_rfl) g cur.size (by have hg' : w.drew.heap[g]? = some (.cells cur 5 (0, 0)) := hg; simp [World.shape?, hg']) l h0 (by omega) (by unfold maxLen at hcm; omega) ?_
  intro j x hx
  have hg' : w.drew.heap[g]? = some (.cells cur 5 (0, 0)) := hg
  have h1 : (Lib.byteCells l)[j]? = some (.int .u8 x.toNat) := by simp [Lib.byteCells, hx]
  rw [← htake] at h1
  have h2 : cur.toList[j]? = some (.int .u8 x.toNat) := by
   rw [List.getElem?_take] at h1
   split at h1
   ·exact h1
   ·cases h1
  have ha : (⟨g, 0, none⟩ : Addr).add j = ⟨g, j, none⟩ := by simp only [Addr.add]; split <;> simp_all
  rw [ha, Lib.cell_of_heap hg', ← Array.getElem?_toList]; exact h2
 have mixed : Try.prog.follows .mixedOrders = true := by kernel_rfl
 go_enter Try.func94, Try.ntmps94
 go_wp2
 go_region
 all_goals (go_wp2; go_ret; exact ⟨rfl, rfl⟩)
end Go.Proofs.Ytedfbamihjnhhaa.Bd
end
