/-
  DERIVED: THE SHELF's CONTRACTS AT THIS DUMP, IN PLAIN WORDS (tools/lay-plain.mjs out of 'TryShelf.lean', which tools/lay-shelf.mjs wrote): THE SAME DECLARATIONS UNDER THE SAME NAMES: 'import', 'namespace', 'open', 'def', 'theorem' AND NOTHING ELSE: no command of the shelf's: FOR A HAND-IN. Each laying: the table of numbers ('.._ren') and one theorem, a field a fact of the dump's own or the kernel's comparison; each contract: ONE APPLICATION.
-/
/- Sum and difference of wide numbers, and their words: what the code computes. -/
/- How long a number is: what the code computes. -/
import Derived.Shelf.Strconv.Itoa0
import Derived.Test.YtedfbamihjnhhaaProg
import Derived.Below
import Derived.Deep.Draws
import Derived.Deep.AppendLies
import Derived.Maps.AppendAt
import Derived.OwnWalk
import Derived.Laws.BytesArg
import Derived.Laws.MakeOwn
import Derived.Laws.OwnMore
import Derived.Deep.OwnRows
import Derived.Tactics
import Derived.Lib.ConvBytes
import Derived.Laws.Slices
import Derived.WalkKit
import Derived.KernelRfl
import Derived.RowKit3
import Derived.Deep.LoopGhost
import Derived.Deep.QuietTactic
import Derived.BigQuiet
import Derived.WideLaws
import Derived.Deep.DeepCutAuto
import Derived.Deep.CutBlock
import Derived.Deep.RegionHeld3
import Derived.Laws.Rows
import Derived.Lib.AppendStr
import Derived.ArgAppend
import Derived.Laws.IdiomCopy
import Derived.OrdersHeld
import Derived.Laws.BitsLemmas
import Derived.RowKit
import Derived.Handy
import Derived.RegionTactic
import Derived.Laws.BitsAllLaws
import Derived.Laws.Externs
import Derived.Lib.Hide
import Derived.Shelf.Spec.BitsCarry
import Derived.Test.YtedfbamihjnhhaaWide
section
namespace Go.Proofs
open Go.Shelf
def Try.lays129_ren : Go.Shelf.Ren := ⟨fun | 129 => 125 | n => n, fun | 53 => 22 | 3 => 3 | 4 => 4 | 46 => 76 | 5 => 5 | 9 => 9 | n => n, fun | n => n⟩
theorem Try.lays129 : Go.Proofs.Lays.n129 Try.prog Try.lays129_ren := {
  mixed := by kernel_rfl
  f129 := Try.func125.trans (congrArg some (by kernel_rfl))
  t3 := Try.underlying3
  a3 := Try.isAgg3
  z3 := Try.sizeOf3
  v3 := Try.zeroValue3
  t4 := Try.underlying4
  a4 := Try.isAgg4
  z4 := Try.sizeOf4
  v4 := Try.zeroValue4
  t5 := Try.underlying5
  a5 := Try.isAgg5
  z5 := Try.sizeOf5
  v5 := Try.zeroValue5
  t9 := Try.underlying9
  a9 := Try.isAgg9
  z9 := Try.sizeOf9
  v9 := Try.zeroValue9
  t46 := Try.underlying76
  a46 := Try.isAgg76
  z46 := Try.sizeOf76
  v46 := Try.zeroValue76
  t53 := Try.underlying22
  a53 := Try.isAgg22
  z53 := Try.sizeOf22
  v53 := Try.zeroValue22 }
/-- bits.Len64: "Len64 returns the minimum number of bits required to represent x; the result is 0 for x == 0.": IT RETURNS 'Lib.bitLen x'; the world is as it was. ('h0', 'h1': x is a uint64.) (LAID: no walk: one application.) -/
theorem Try.bits_Len64 (x : Int) (w : World) (h0 : 0 ≤ x) (h1 : x ≤ 18446744073709551615) :
    Calls Try.prog 125 #[.int .u64 x] w fun e w' => e = .returned (.int .i64 (Lib.bitLen x.toNat)) ∧ w' = w := Any.bits_Len64 Try.lays129 x w h0 h1
end Go.Proofs
end
section
namespace Go.Proofs.Ytedfbamihjnhhaa.Limb
set_option maxRecDepth 100000
open Go.RowKit Go.Proofs.Ytedfbamihjnhhaa.Plain
set_option linter.unusedVariables false
set_option linter.unusedSimpArgs false

/-- a word -/
def Wd (x : Int) : Prop := 0 ≤ x ∧ x < 18446744073709551616
instance (x : Int) : Decidable (Wd x) := by unfold Wd; infer_instance
theorem Wd.nat {x : Int} (h : Wd x) : ∃ n : Nat, x = (n : Int) ∧ n < 18446744073709551616 := by
  unfold Wd at h
  exact ⟨x.toNat, by omega, by omega⟩
theorem Wd.mk {n : Nat} (h : n < 18446744073709551616) : Wd (n : Int) := by unfold Wd; omega
def e4 (N : Nat) : Int × Int × Int × Int := ((wrd 3 N : Nat), (wrd 2 N : Nat), (wrd 1 N : Nat), (wrd 0 N : Nat))
def e2 (N : Nat) : Int × Int := ((wrd 1 N : Nat), (wrd 0 N : Nat))
def n4 (a b c d : Int) : Nat := val4 a.toNat b.toNat c.toNat d.toNat
def n2 (a b : Int) : Nat := val2 a.toNat b.toNat
theorem add64_run (x y c : Int) (hx : 0 ≤ x) (hy : 0 ≤ y) (hc0 : 0 ≤ c) (hc : c ≤ 1) (w : World) :
    (callFunc 96 #[.int .u64 x, .int .u64 y, .int .u64 c]).run Try.prog w = .ok (.value (.tuple #[.int .u64 ((x + y + c) % 18446744073709551616), .int .u64 ((x + y + c) / 18446744073709551616)])) w := by
  rw [run_callFunc_extern Try.func96 (by kernel_rfl) (by kernel_rfl) (by kernel_rfl) (e := add64Entry) (by kernel_rfl), run_add64 x y c hx hy hc0 hc]
  rfl
theorem sub64_run (x y b : Nat) (hb : b ≤ 1) (w : World) :
    (callFunc 98 #[.int .u64 x, .int .u64 y, .int .u64 b]).run Try.prog w = .ok (.value (.tuple #[.int .u64 (((x + 18446744073709551616 - y - b) % 18446744073709551616 : Nat) : Int), .int .u64 ((if x < y + b then 1 else 0 : Nat) : Int)])) w := by
  rw [run_callFunc_extern Try.func98 (by kernel_rfl) (by kernel_rfl) (by kernel_rfl) (e := Go.Proofs.sub64Entry) (by kernel_rfl), Go.Proofs.run_sub64 x y b hb]
  rfl
/-- a sum of words, by name -/
theorem sum_of (x y c : Int) (hx : 0 ≤ x) (hy : 0 ≤ y) (hc0 : 0 ≤ c) (hc : c ≤ 1) : ∃ s d, (x + y + c) % 18446744073709551616 = s ∧ (x + y + c) / 18446744073709551616 = d ∧ ∀ w, (callFunc 96 #[.int .u64 x, .int .u64 y, .int .u64 c]).run Try.prog w = .ok (.value (.tuple #[.int .u64 s, .int .u64 d])) w :=
  ⟨_, _, rfl, rfl, add64_run x y c hx hy hc0 hc⟩
theorem diff_of (x y b : Nat) (hb : b ≤ 1) : ∃ s d : Nat, (x + 18446744073709551616 - y - b) % 18446744073709551616 = s ∧ (if x < y + b then 1 else 0) = d ∧ d ≤ 1 ∧ ∀ w, (callFunc 98 #[.int .u64 x, .int .u64 y, .int .u64 b]).run Try.prog w = .ok (.value (.tuple #[.int .u64 (s : Int), .int .u64 (d : Int)])) w :=
  ⟨_, _, rfl, rfl, by split <;> decide, sub64_run x y b hb⟩

def limb_Add.f (a0_0 a0_1 a1_0 a1_1 : Int) : Option (Int × Int × Bool) :=
  if Wd a0_0 ∧ Wd a0_1 ∧ Wd a1_0 ∧ Wd a1_1 then some ((e2 (n2 a0_0 a0_1 + n2 a1_0 a1_1)).1, (e2 (n2 a0_0 a0_1 + n2 a1_0 a1_1)).2, decide (340282366920938463463374607431768211456 ≤ n2 a0_0 a0_1 + n2 a1_0 a1_1)) else none
theorem add_words (a b c d : Nat) (ha : a < 18446744073709551616) (hb : b < 18446744073709551616) (hc : c < 18446744073709551616) (hd : d < 18446744073709551616) (s u s2 u2 : Int)
    (hs : ((b : Int) + d + 0) % 18446744073709551616 = s) (hu : ((b : Int) + d + 0) / 18446744073709551616 = u) (hs2 : ((a : Int) + c + u) % 18446744073709551616 = s2) (hu2 : ((a : Int) + c + u) / 18446744073709551616 = u2) :
    s2 = ((wrd 1 (val2 a b + val2 c d) : Nat) : Int) ∧ s = ((wrd 0 (val2 a b + val2 c d) : Nat) : Int) ∧ decide (u2 > 0) = decide (340282366920938463463374607431768211456 ≤ val2 a b + val2 c d) := by
  subst hs hu hs2 hu2
  unfold val2 wrd
  simp only [Nat.reducePow]
  refine ⟨by omega, by omega, ?_⟩
  rw [decide_eq_decide]
  omega
set_option maxHeartbeats 4000000 in
theorem limb_Add.calls (a0_0 a0_1 a1_0 a1_1 : Int) (r1 r2 : Int) (r3 : Bool) (w : World) (h : limb_Add.f a0_0 a0_1 a1_0 a1_1 = some (r1, r2, r3)) :
    Calls Try.prog 66 #[.agg #[.int .u64 a0_0, .int .u64 a0_1], .agg #[.int .u64 a1_0, .int .u64 a1_1]] w fun e w' => e = .returned (.tuple #[.agg #[.int .u64 r1, .int .u64 r2], .bool r3]) ∧ Below w.heap.size w w' := by
  unfold limb_Add.f at h
  split at h
  · rename_i hb
    obtain ⟨b1, b2, b3, b4⟩ := hb
    obtain ⟨a, rfl, la⟩ := b1.nat
    obtain ⟨b, rfl, lb⟩ := b2.nat
    obtain ⟨c, rfl, lc⟩ := b3.nat
    obtain ⟨d, rfl, ld⟩ := b4.nat
    obtain ⟨s, u, hs, hu, hr⟩ := sum_of b d 0 (by omega) (by omega) (by decide) (by decide)
    obtain ⟨s2, u2, hs2, hu2, hr2⟩ := sum_of a c u (by omega) (by omega) (by omega) (by omega)
    obtain ⟨z1, z2, z3⟩ := add_words a b c d la lb lc ld s u s2 u2 hs hu hs2 hu2
    simp only [n2, e2, Int.toNat_natCast, ← z1, ← z2, ← z3, Option.some.injEq, Prod.mk.injEq] at h
    obtain ⟨rfl, rfl, rfl⟩ := h
    have Z := Go.Lib.hid z3
    clear z1 z2 z3 hs hu hs2 hu2 la lb lc ld b1 b2 b3 b4
    have hu79 := Try.underlying79
    go_enter Try.func66, Try.ntmps66
    go_wp2
    refine bodyPost_ret (v := .tuple #[.agg #[.int .u64 s2, .int .u64 s], .bool (decide (u2 > 0))]) (by simp [results, Try.results66, go_sem]) rfl ⟨by rw [Z.out]; congr, ?_⟩
    go_grown
  · exact absurd h (by simp)

def limb_Sub.f (a0_0 a0_1 a1_0 a1_1 : Int) : Option (Int × Int × Bool) :=
  if Wd a0_0 ∧ Wd a0_1 ∧ Wd a1_0 ∧ Wd a1_1 then some ((e2 (n2 a0_0 a0_1 + 340282366920938463463374607431768211456 - n2 a1_0 a1_1)).1, (e2 (n2 a0_0 a0_1 + 340282366920938463463374607431768211456 - n2 a1_0 a1_1)).2, decide (n2 a0_0 a0_1 < n2 a1_0 a1_1)) else none
theorem sub_words (a b c d : Nat) (ha : a < 18446744073709551616) (hb : b < 18446744073709551616) (hc : c < 18446744073709551616) (hd : d < 18446744073709551616) (s u s2 u2 : Nat)
    (hs : (b + 18446744073709551616 - d - 0) % 18446744073709551616 = s) (hu : (if b < d + 0 then 1 else 0) = u) (hs2 : (a + 18446744073709551616 - c - u) % 18446744073709551616 = s2) (hu2 : (if a < c + u then 1 else 0) = u2) :
    s2 = wrd 1 (val2 a b + 340282366920938463463374607431768211456 - val2 c d) ∧ s = wrd 0 (val2 a b + 340282366920938463463374607431768211456 - val2 c d) ∧ decide ((u2 : Int) > 0) = decide (val2 a b < val2 c d) := by
  unfold val2 wrd
  simp only [Nat.reducePow]
  refine ⟨?_, ?_, ?_⟩
  · split at hu <;> omega
  · split at hu <;> omega
  · rw [decide_eq_decide]
    split at hu <;> split at hu2 <;> omega
set_option maxHeartbeats 4000000 in
theorem limb_Sub.calls (a0_0 a0_1 a1_0 a1_1 : Int) (r1 r2 : Int) (r3 : Bool) (w : World) (h : limb_Sub.f a0_0 a0_1 a1_0 a1_1 = some (r1, r2, r3)) :
    Calls Try.prog 69 #[.agg #[.int .u64 a0_0, .int .u64 a0_1], .agg #[.int .u64 a1_0, .int .u64 a1_1]] w fun e w' => e = .returned (.tuple #[.agg #[.int .u64 r1, .int .u64 r2], .bool r3]) ∧ Below w.heap.size w w' := by
  unfold limb_Sub.f at h
  split at h
  · rename_i hb
    obtain ⟨b1, b2, b3, b4⟩ := hb
    obtain ⟨a, rfl, la⟩ := b1.nat
    obtain ⟨b, rfl, lb⟩ := b2.nat
    obtain ⟨c, rfl, lc⟩ := b3.nat
    obtain ⟨d, rfl, ld⟩ := b4.nat
    obtain ⟨s, u, hs, hu, lu, hr0⟩ := diff_of b d 0 (by decide)
    obtain ⟨s2, u2, hs2, hu2, lu2, hr2⟩ := diff_of a c u lu
    have hr : ∀ w, (callFunc 98 #[.int .u64 (b : Int), .int .u64 (d : Int), .int .u64 0]).run Try.prog w = .ok (.value (.tuple #[.int .u64 (s : Int), .int .u64 (u : Int)])) w := hr0
    clear hr0
    obtain ⟨z1, z2, z3⟩ := sub_words a b c d la lb lc ld s u s2 u2 hs hu hs2 hu2
    simp only [n2, e2, Int.toNat_natCast, ← z1, ← z2, ← z3, Option.some.injEq, Prod.mk.injEq] at h
    obtain ⟨rfl, rfl, rfl⟩ := h
    have Z := Go.Lib.hid z3
    clear z1 z2 z3 hs hu hs2 hu2 la lb lc ld b1 b2 b3 b4 lu lu2
    have hu79 := Try.underlying79
    go_enter Try.func69, Try.ntmps69
    go_wp2
    refine bodyPost_ret (v := .tuple #[.agg #[.int .u64 (s2 : Int), .int .u64 (s : Int)], .bool (decide ((u2 : Int) > 0))]) (by simp [results, Try.results69, go_sem]) rfl ⟨by rw [Z.out]; congr, ?_⟩
    go_grown
  · exact absurd h (by simp)

theorem bcell {W w1 : World} (hb : Below W.heap.size W w1) : (∀ b o, b < W.heap.size → w1.cell? ⟨b, o, none⟩ = W.cell? ⟨b, o, none⟩) ∧ (∀ b o, b < W.heap.size → w1.frozen? ⟨b, o, none⟩ = W.frozen? ⟨b, o, none⟩) :=
  ⟨fun b o h => hb.cell (p := ⟨b, o, none⟩) h, fun b o h => hb.frozen (p := ⟨b, o, none⟩) h⟩
theorem limb_four.calls0 (x0 x1 x2 x3 : Int) (w : World) :
    Calls Try.prog 150 #[.agg #[.int .u64 x0, .int .u64 x1, .int .u64 x2, .int .u64 x3]] w fun e w' => e = .returned (.agg #[.int .u64 x3, .int .u64 x2, .int .u64 x1, .int .u64 x0]) ∧ Below w.heap.size w w' := by
  have hu79 := Try.underlying79
  have hu86 := Try.underlying86
  have hu179 := Try.underlying179
  go_enter Try.func150, Try.ntmps150
  go_wp2
  refine bodyPost_ret (v := .agg #[.int .u64 x3, .int .u64 x2, .int .u64 x1, .int .u64 x0]) (by simp [results, Try.results150, go_sem]) rfl ⟨rfl, ?_⟩
  go_grown
theorem limb_list.calls0 (x0 x1 x2 x3 : Int) (w : World) :
    Calls Try.prog 148 #[.agg #[.int .u64 x3, .int .u64 x2, .int .u64 x1, .int .u64 x0]] w fun e w' => e = .returned (.agg #[.int .u64 x0, .int .u64 x1, .int .u64 x2, .int .u64 x3]) ∧ Below w.heap.size w w' := by
  have hu79 := Try.underlying79
  have hu86 := Try.underlying86
  have hu179 := Try.underlying179
  go_enter Try.func148, Try.ntmps148
  go_wp2
  refine bodyPost_ret (v := .agg #[.int .u64 x0, .int .u64 x1, .int .u64 x2, .int .u64 x3]) (by simp [results, Try.results148, go_sem]) rfl ⟨rfl, ?_⟩
  go_grown

end Go.Proofs.Ytedfbamihjnhhaa.Limb
end
section
namespace Go.Proofs.Ytedfbamihjnhhaa.Limb
set_option maxRecDepth 100000
open Go.RowKit Go.Proofs.Ytedfbamihjnhhaa.Plain
set_option linter.unusedVariables false
set_option linter.unusedSimpArgs false

theorem bitLenAux_eq (f : Nat) : ∀ x, x < 2 ^ f → Go.Lib.bitLenAux f x = blen x := by
  induction f with
  | zero =>
    intro x hx
    obtain rfl : x = 0 := by simpa using hx
    simp [Go.Lib.bitLenAux, blen]
  | succ f ih =>
    intro x hx
    rw [Nat.pow_succ] at hx
    unfold Go.Lib.bitLenAux
    by_cases h : x = 0
    · rw [if_pos h]; simp [blen, h]
    · rw [if_neg h, ih (x / 2) (by omega)]
      by_cases h2 : x / 2 = 0
      · have : x = 1 := by omega
        subst this; simp [blen]; decide
      · have hu := blen_up (x / 2) (x % 2) 1 h2 (by omega)
        rw [show x / 2 * 2 ^ 1 + x % 2 = x by omega] at hu
        rw [hu]
theorem len64_calls (x : Nat) (hx : x < 18446744073709551616) (w : World) :
    Calls Try.prog 125 #[.int .u64 x] w fun e w' => e = .returned (.int .i64 (blen x : Nat)) ∧ w = w' := by
  have h := Try.bits_Len64 (x : Int) w (by omega) (by omega)
  refine h.mono ?_
  rintro e w' ⟨rfl, rfl⟩
  rw [Int.toNat_natCast]
  exact ⟨by unfold Go.Lib.bitLen; rw [bitLenAux_eq 64 x hx], rfl⟩
def limb_Len.f (a0_0 a0_1 a0_2 a0_3 : Int) : Option Int :=
  if Wd a0_0 ∧ Wd a0_1 ∧ Wd a0_2 ∧ Wd a0_3 then some (blen (n4 a0_0 a0_1 a0_2 a0_3) : Nat) else none
theorem blen_word (x : Nat) (hx : x < 18446744073709551616) : blen x ≤ 64 := (blen_le x 64).2 hx
theorem len_cases (a b c d : Nat) (ha : a < 18446744073709551616) (hb : b < 18446744073709551616) (hc : c < 18446744073709551616) (hd : d < 18446744073709551616) (w : World) :
    Calls Try.prog 97 #[.agg #[.int .u64 a, .int .u64 b, .int .u64 c, .int .u64 d]] w fun e w' => e = .returned (.int .i64 (blen (val4 a b c d) : Nat)) ∧ Below w.heap.size w w' := by
  have hu79 := Try.underlying79
  have hu86 := Try.underlying86
  have hu179 := Try.underlying179
  have i0 : ∀ (x y z u : Value) (w : World), (Instr.index 179 (.agg #[x, y, z, u]) (.int .i64 0)).run Try.prog w = .ok x w := fun _ _ _ _ _ => by rfl
  have i1 : ∀ (x y z u : Value) (w : World), (Instr.index 179 (.agg #[x, y, z, u]) (.int .i64 1)).run Try.prog w = .ok y w := fun _ _ _ _ _ => by rfl
  have i2 : ∀ (x y z u : Value) (w : World), (Instr.index 179 (.agg #[x, y, z, u]) (.int .i64 2)).run Try.prog w = .ok z w := fun _ _ _ _ _ => by rfl
  have i3 : ∀ (x y z u : Value) (w : World), (Instr.index 179 (.agg #[x, y, z, u]) (.int .i64 3)).run Try.prog w = .ok u w := fun _ _ _ _ _ => by rfl
  have hla := Go.Lib.hid ha
  have hlb := Go.Lib.hid hb
  have hlc := Go.Lib.hid hc
  have hld := Go.Lib.hid hd
  by_cases z1 : a = 0
  · by_cases z2 : b = 0
    · by_cases z3 : c = 0
      · have e := Go.Lib.hid (blen_0 d)
        have g := blen_word d hd
        by_cases z4 : d = 0
        · subst z1 z2 z3 z4
          clear hla hlb hlc hld ha hb hc hd e g
          go_enter Try.func97, Try.ntmps97
          go_wp2
          go_rounds 5
          go_ret
          exact ⟨rfl, by go_grown⟩
        · have n1 : ((d : Int) != 0) = true := by rw [bne_iff_ne]; omega
          subst z1 z2 z3
          clear ha hb hc hd z4 hla hlb hlc
          go_enter Try.func97, Try.ntmps97
          go_wp2
          refine wp_loop_rounds 5 ?_
          repeat any_goals (rw [rounds_succ]; go_wp2_with (go_at_call 125; refine (len64_calls _ (hld.out) _).mono ?_; rintro e w' ⟨rfl, rfl⟩))
          go_ret
          exact ⟨by rw [e.out]; simp, by go_grown⟩
      · have e := Go.Lib.hid (blen_1 c d z3 hd)
        have g := blen_word c hc
        have n1 : ((c : Int) != 0) = true := by rw [bne_iff_ne]; omega
        subst z1 z2
        clear ha hb hc hd z3 hla hlb hld
        go_enter Try.func97, Try.ntmps97
        go_wp2
        refine wp_loop_rounds 5 ?_
        repeat any_goals (rw [rounds_succ]; go_wp2_with (go_at_call 125; refine (len64_calls _ (hlc.out) _).mono ?_; rintro e w' ⟨rfl, rfl⟩))
        go_ret
        exact ⟨by rw [e.out]; simp, by go_grown⟩
    · have e := Go.Lib.hid (blen_2 b c d z2 hc hd)
      have g := blen_word b hb
      have n1 : ((b : Int) != 0) = true := by rw [bne_iff_ne]; omega
      subst z1
      clear ha hb hc hd z2 hla hlc hld
      go_enter Try.func97, Try.ntmps97
      go_wp2
      refine wp_loop_rounds 5 ?_
      repeat any_goals (rw [rounds_succ]; go_wp2_with (go_at_call 125; refine (len64_calls _ (hlb.out) _).mono ?_; rintro e w' ⟨rfl, rfl⟩))
      go_ret
      exact ⟨by rw [e.out]; simp, by go_grown⟩
  · have e := Go.Lib.hid (blen_3 a b c d z1 hb hc hd)
    have g := blen_word a ha
    have n1 : ((a : Int) != 0) = true := by rw [bne_iff_ne]; omega
    clear ha hb hc hd z1 hlb hlc hld
    go_enter Try.func97, Try.ntmps97
    go_wp2
    refine wp_loop_rounds 5 ?_
    repeat any_goals (rw [rounds_succ]; go_wp2_with (go_at_call 125; refine (len64_calls _ (hla.out) _).mono ?_; rintro e w' ⟨rfl, rfl⟩))
    go_ret
    exact ⟨by rw [e.out]; simp, by go_grown⟩
theorem limb_Len.calls (a0_0 a0_1 a0_2 a0_3 : Int) (r : Int) (w : World) (h : limb_Len.f a0_0 a0_1 a0_2 a0_3 = some r) :
    Calls Try.prog 97 #[.agg #[.int .u64 a0_0, .int .u64 a0_1, .int .u64 a0_2, .int .u64 a0_3]] w fun e w' => e = .returned (.int .i64 r) ∧ Below w.heap.size w w' := by
  unfold limb_Len.f at h
  split at h
  · rename_i hb
    obtain ⟨b1, b2, b3, b4⟩ := hb
    obtain ⟨a, rfl, la⟩ := b1.nat
    obtain ⟨b, rfl, lb⟩ := b2.nat
    obtain ⟨c, rfl, lc⟩ := b3.nat
    obtain ⟨d, rfl, ld⟩ := b4.nat
    simp only [n4, Int.toNat_natCast, Option.some.injEq] at h
    subst h
    exact len_cases a b c d la lb lc ld w
  · exact absurd h (by simp)

end Go.Proofs.Ytedfbamihjnhhaa.Limb
end
