/- Sum and difference of wide numbers, and their words: what the code computes. -/
import Derived.Test.YtedfbamihjnhhaaProg
import Derived.Below
import Derived.Deep.Draws
import Derived.Deep.AppendLies
import Derived.Maps.AppendAt
import Derived.OwnWalk
import Derived.Laws.BytesArg
import Derived.Laws.MakeOwn
import Derived.Laws.OwnMore
import Derived.Deep.OwnRows
import Derived.Tactics
import Derived.Lib.ConvBytes
import Derived.Laws.Slices
import Derived.WalkKit
import Derived.KernelRfl
import Derived.RowKit3
import Derived.Deep.LoopGhost
import Derived.Deep.QuietTactic
import Derived.BigQuiet
import Derived.WideLaws
import Derived.Deep.DeepCutAuto
import Derived.Deep.CutBlock
import Derived.Deep.RegionHeld3
import Derived.Laws.Rows
import Derived.Lib.AppendStr
import Derived.ArgAppend
import Derived.Laws.IdiomCopy
import Derived.OrdersHeld
import Derived.Laws.BitsLemmas
import Derived.RowKit
import Derived.Handy
import Derived.RegionTactic
import Derived.Laws.BitsAllLaws
import Derived.Laws.Externs
import Derived.Lib.Hide
import Derived.Shelf.Spec.BitsCarry
import Derived.Test.YtedfbamihjnhhaaWide
import Derived.Test.YtedfbamihjnhhaaShelf
namespace Go.Proofs.Ytedfbamihjnhhaa.Limb
set_option maxRecDepth 100000
open Go.RowKit Go.Proofs.Ytedfbamihjnhhaa.Plain
set_option linter.unusedVariables false
set_option linter.unusedSimpArgs false

/-- a word -/
def Wd (x : Int) : Prop := 0 ≤ x ∧ x < 18446744073709551616
instance (x : Int) : Decidable (Wd x) := by unfold Wd; infer_instance
theorem Wd.nat {x : Int} (h : Wd x) : ∃ n : Nat, x = (n : Int) ∧ n < 18446744073709551616 := by
  unfold Wd at h
  exact ⟨x.toNat, by omega, by omega⟩
theorem Wd.mk {n : Nat} (h : n < 18446744073709551616) : Wd (n : Int) := by unfold Wd; omega
def e4 (N : Nat) : Int × Int × Int × Int := ((wrd 3 N : Nat), (wrd 2 N : Nat), (wrd 1 N : Nat), (wrd 0 N : Nat))
def e2 (N : Nat) : Int × Int := ((wrd 1 N : Nat), (wrd 0 N : Nat))
def n4 (a b c d : Int) : Nat := val4 a.toNat b.toNat c.toNat d.toNat
def n2 (a b : Int) : Nat := val2 a.toNat b.toNat
theorem add64_run (x y c : Int) (hx : 0 ≤ x) (hy : 0 ≤ y) (hc0 : 0 ≤ c) (hc : c ≤ 1) (w : World) :
    (callFunc 96 #[.int .u64 x, .int .u64 y, .int .u64 c]).run Try.prog w = .ok (.value (.tuple #[.int .u64 ((x + y + c) % 18446744073709551616), .int .u64 ((x + y + c) / 18446744073709551616)])) w := by
  rw [run_callFunc_extern Try.func96 (by kernel_rfl) (by kernel_rfl) (by kernel_rfl) (e := add64Entry) (by kernel_rfl), run_add64 x y c hx hy hc0 hc]
  rfl
theorem sub64_run (x y b : Nat) (hb : b ≤ 1) (w : World) :
    (callFunc 98 #[.int .u64 x, .int .u64 y, .int .u64 b]).run Try.prog w = .ok (.value (.tuple #[.int .u64 (((x + 18446744073709551616 - y - b) % 18446744073709551616 : Nat) : Int), .int .u64 ((if x < y + b then 1 else 0 : Nat) : Int)])) w := by
  rw [run_callFunc_extern Try.func98 (by kernel_rfl) (by kernel_rfl) (by kernel_rfl) (e := Go.Proofs.sub64Entry) (by kernel_rfl), Go.Proofs.run_sub64 x y b hb]
  rfl
/-- a sum of words, by name -/
theorem sum_of (x y c : Int) (hx : 0 ≤ x) (hy : 0 ≤ y) (hc0 : 0 ≤ c) (hc : c ≤ 1) : ∃ s d, (x + y + c) % 18446744073709551616 = s ∧ (x + y + c) / 18446744073709551616 = d ∧ ∀ w, (callFunc 96 #[.int .u64 x, .int .u64 y, .int .u64 c]).run Try.prog w = .ok (.value (.tuple #[.int .u64 s, .int .u64 d])) w :=
  ⟨_, _, rfl, rfl, add64_run x y c hx hy hc0 hc⟩
theorem diff_of (x y b : Nat) (hb : b ≤ 1) : ∃ s d : Nat, (x + 18446744073709551616 - y - b) % 18446744073709551616 = s ∧ (if x < y + b then 1 else 0) = d ∧ d ≤ 1 ∧ ∀ w, (callFunc 98 #[.int .u64 x, .int .u64 y, .int .u64 b]).run Try.prog w = .ok (.value (.tuple #[.int .u64 (s : Int), .int .u64 (d : Int)])) w :=
  ⟨_, _, rfl, rfl, by split <;> decide, sub64_run x y b hb⟩

def limb_Add.f (a0_0 a0_1 a1_0 a1_1 : Int) : Option (Int × Int × Bool) :=
  if Wd a0_0 ∧ Wd a0_1 ∧ Wd a1_0 ∧ Wd a1_1 then some ((e2 (n2 a0_0 a0_1 + n2 a1_0 a1_1)).1, (e2 (n2 a0_0 a0_1 + n2 a1_0 a1_1)).2, decide (340282366920938463463374607431768211456 ≤ n2 a0_0 a0_1 + n2 a1_0 a1_1)) else none
theorem add_words (a b c d : Nat) (ha : a < 18446744073709551616) (hb : b < 18446744073709551616) (hc : c < 18446744073709551616) (hd : d < 18446744073709551616) (s u s2 u2 : Int)
    (hs : ((b : Int) + d + 0) % 18446744073709551616 = s) (hu : ((b : Int) + d + 0) / 18446744073709551616 = u) (hs2 : ((a : Int) + c + u) % 18446744073709551616 = s2) (hu2 : ((a : Int) + c + u) / 18446744073709551616 = u2) :
    s2 = ((wrd 1 (val2 a b + val2 c d) : Nat) : Int) ∧ s = ((wrd 0 (val2 a b + val2 c d) : Nat) : Int) ∧ decide (u2 > 0) = decide (340282366920938463463374607431768211456 ≤ val2 a b + val2 c d) := by
  subst hs hu hs2 hu2
  unfold val2 wrd
  simp only [Nat.reducePow]
  refine ⟨by omega, by omega, ?_⟩
  rw [decide_eq_decide]
  omega
set_option maxHeartbeats 4000000 in
theorem limb_Add.calls (a0_0 a0_1 a1_0 a1_1 : Int) (r1 r2 : Int) (r3 : Bool) (w : World) (h : limb_Add.f a0_0 a0_1 a1_0 a1_1 = some (r1, r2, r3)) :
    Calls Try.prog 66 #[.agg #[.int .u64 a0_0, .int .u64 a0_1], .agg #[.int .u64 a1_0, .int .u64 a1_1]] w fun e w' => e = .returned (.tuple #[.agg #[.int .u64 r1, .int .u64 r2], .bool r3]) ∧ Below w.heap.size w w' := by
  unfold limb_Add.f at h
  split at h
  · rename_i hb
    obtain ⟨b1, b2, b3, b4⟩ := hb
    obtain ⟨a, rfl, la⟩ := b1.nat
    obtain ⟨b, rfl, lb⟩ := b2.nat
    obtain ⟨c, rfl, lc⟩ := b3.nat
    obtain ⟨d, rfl, ld⟩ := b4.nat
    obtain ⟨s, u, hs, hu, hr⟩ := sum_of b d 0 (by omega) (by omega) (by decide) (by decide)
    obtain ⟨s2, u2, hs2, hu2, hr2⟩ := sum_of a c u (by omega) (by omega) (by omega) (by omega)
    obtain ⟨z1, z2, z3⟩ := add_words a b c d la lb lc ld s u s2 u2 hs hu hs2 hu2
    simp only [n2, e2, Int.toNat_natCast, ← z1, ← z2, ← z3, Option.some.injEq, Prod.mk.injEq] at h
    obtain ⟨rfl, rfl, rfl⟩ := h
    have Z := Go.Lib.hid z3
    clear z1 z2 z3 hs hu hs2 hu2 la lb lc ld b1 b2 b3 b4
    have hu79 := Try.underlying79
    go_enter Try.func66, Try.ntmps66
    go_wp2
    refine bodyPost_ret (v := .tuple #[.agg #[.int .u64 s2, .int .u64 s], .bool (decide (u2 > 0))]) (by simp [results, Try.results66, go_sem]) rfl ⟨by rw [Z.out]; congr, ?_⟩
    go_grown
  · exact absurd h (by simp)

def limb_Sub.f (a0_0 a0_1 a1_0 a1_1 : Int) : Option (Int × Int × Bool) :=
  if Wd a0_0 ∧ Wd a0_1 ∧ Wd a1_0 ∧ Wd a1_1 then some ((e2 (n2 a0_0 a0_1 + 340282366920938463463374607431768211456 - n2 a1_0 a1_1)).1, (e2 (n2 a0_0 a0_1 + 340282366920938463463374607431768211456 - n2 a1_0 a1_1)).2, decide (n2 a0_0 a0_1 < n2 a1_0 a1_1)) else none
theorem sub_words (a b c d : Nat) (ha : a < 18446744073709551616) (hb : b < 18446744073709551616) (hc : c < 18446744073709551616) (hd : d < 18446744073709551616) (s u s2 u2 : Nat)
    (hs : (b + 18446744073709551616 - d - 0) % 18446744073709551616 = s) (hu : (if b < d + 0 then 1 else 0) = u) (hs2 : (a + 18446744073709551616 - c - u) % 18446744073709551616 = s2) (hu2 : (if a < c + u then 1 else 0) = u2) :
    s2 = wrd 1 (val2 a b + 340282366920938463463374607431768211456 - val2 c d) ∧ s = wrd 0 (val2 a b + 340282366920938463463374607431768211456 - val2 c d) ∧ decide ((u2 : Int) > 0) = decide (val2 a b < val2 c d) := by
  unfold val2 wrd
  simp only [Nat.reducePow]
  refine ⟨?_, ?_, ?_⟩
  · split at hu <;> omega
  · split at hu <;> omega
  · rw [decide_eq_decide]
    split at hu <;> split at hu2 <;> omega
set_option maxHeartbeats 4000000 in
theorem limb_Sub.calls (a0_0 a0_1 a1_0 a1_1 : Int) (r1 r2 : Int) (r3 : Bool) (w : World) (h : limb_Sub.f a0_0 a0_1 a1_0 a1_1 = some (r1, r2, r3)) :
    Calls Try.prog 69 #[.agg #[.int .u64 a0_0, .int .u64 a0_1], .agg #[.int .u64 a1_0, .int .u64 a1_1]] w fun e w' => e = .returned (.tuple #[.agg #[.int .u64 r1, .int .u64 r2], .bool r3]) ∧ Below w.heap.size w w' := by
  unfold limb_Sub.f at h
  split at h
  · rename_i hb
    obtain ⟨b1, b2, b3, b4⟩ := hb
    obtain ⟨a, rfl, la⟩ := b1.nat
    obtain ⟨b, rfl, lb⟩ := b2.nat
    obtain ⟨c, rfl, lc⟩ := b3.nat
    obtain ⟨d, rfl, ld⟩ := b4.nat
    obtain ⟨s, u, hs, hu, lu, hr0⟩ := diff_of b d 0 (by decide)
    obtain ⟨s2, u2, hs2, hu2, lu2, hr2⟩ := diff_of a c u lu
    have hr : ∀ w, (callFunc 98 #[.int .u64 (b : Int), .int .u64 (d : Int), .int .u64 0]).run Try.prog w = .ok (.value (.tuple #[.int .u64 (s : Int), .int .u64 (u : Int)])) w := hr0
    clear hr0
    obtain ⟨z1, z2, z3⟩ := sub_words a b c d la lb lc ld s u s2 u2 hs hu hs2 hu2
    simp only [n2, e2, Int.toNat_natCast, ← z1, ← z2, ← z3, Option.some.injEq, Prod.mk.injEq] at h
    obtain ⟨rfl, rfl, rfl⟩ := h
    have Z := Go.Lib.hid z3
    clear z1 z2 z3 hs hu hs2 hu2 la lb lc ld b1 b2 b3 b4 lu lu2
    have hu79 := Try.underlying79
    go_enter Try.func69, Try.ntmps69
    go_wp2
    refine bodyPost_ret (v := .tuple #[.agg #[.int .u64 (s2 : Int), .int .u64 (s : Int)], .bool (decide ((u2 : Int) > 0))]) (by simp [results, Try.results69, go_sem]) rfl ⟨by rw [Z.out]; congr, ?_⟩
    go_grown
  · exact absurd h (by simp)

theorem bcell {W w1 : World} (hb : Below W.heap.size W w1) : (∀ b o, b < W.heap.size → w1.cell? ⟨b, o, none⟩ = W.cell? ⟨b, o, none⟩) ∧ (∀ b o, b < W.heap.size → w1.frozen? ⟨b, o, none⟩ = W.frozen? ⟨b, o, none⟩) :=
  ⟨fun b o h => hb.cell (p := ⟨b, o, none⟩) h, fun b o h => hb.frozen (p := ⟨b, o, none⟩) h⟩
theorem limb_four.calls0 (x0 x1 x2 x3 : Int) (w : World) :
    Calls Try.prog 150 #[.agg #[.int .u64 x0, .int .u64 x1, .int .u64 x2, .int .u64 x3]] w fun e w' => e = .returned (.agg #[.int .u64 x3, .int .u64 x2, .int .u64 x1, .int .u64 x0]) ∧ Below w.heap.size w w' := by
  have hu79 := Try.underlying79
  have hu86 := Try.underlying86
  have hu179 := Try.underlying179
  go_enter Try.func150, Try.ntmps150
  go_wp2
  refine bodyPost_ret (v := .agg #[.int .u64 x3, .int .u64 x2, .int .u64 x1, .int .u64 x0]) (by simp [results, Try.results150, go_sem]) rfl ⟨rfl, ?_⟩
  go_grown
theorem limb_list.calls0 (x0 x1 x2 x3 : Int) (w : World) :
    Calls Try.prog 148 #[.agg #[.int .u64 x3, .int .u64 x2, .int .u64 x1, .int .u64 x0]] w fun e w' => e = .returned (.agg #[.int .u64 x0, .int .u64 x1, .int .u64 x2, .int .u64 x3]) ∧ Below w.heap.size w w' := by
  have hu79 := Try.underlying79
  have hu86 := Try.underlying86
  have hu179 := Try.underlying179
  go_enter Try.func148, Try.ntmps148
  go_wp2
  refine bodyPost_ret (v := .agg #[.int .u64 x0, .int .u64 x1, .int .u64 x2, .int .u64 x3]) (by simp [results, Try.results148, go_sem]) rfl ⟨rfl, ?_⟩
  go_grown

end Go.Proofs.Ytedfbamihjnhhaa.Limb
