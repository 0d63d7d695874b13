/- Sum and difference of wide numbers, and their words: what the code computes. -/
import Derived.Test.YtmgfabfmnachoaaDoorProg
import Derived.Below
import Derived.Deep.Draws
import Derived.Deep.AppendLies
import Derived.Maps.AppendAt
import Derived.OwnWalk
import Derived.Laws.BytesArg
import Derived.Laws.MakeOwn
import Derived.Laws.OwnMore
import Derived.Deep.OwnRows
import Derived.Tactics
import Derived.Lib.ConvBytes
import Derived.Laws.Slices
import Derived.WalkKit
import Derived.KernelRfl
import Derived.RowKit3
import Derived.Deep.LoopGhost
import Derived.Deep.QuietTactic
import Derived.BigQuiet
import Derived.WideLaws
import Derived.Deep.DeepCutAuto
import Derived.Deep.CutBlock
import Derived.Deep.RegionHeld3
import Derived.Laws.Rows
import Derived.Lib.AppendStr
import Derived.ArgAppend
import Derived.Laws.IdiomCopy
import Derived.OrdersHeld
import Derived.Laws.BitsLemmas
import Derived.RowKit
import Derived.Handy
import Derived.RegionTactic
import Derived.Laws.BitsAllLaws
import Derived.Laws.Externs
import Derived.Lib.Hide
import Derived.Shelf.Spec.BitsCarry
import Derived.Test.YtmgfabfmnachoaaDoorWide
namespace Go.Proofs.YtmgfabfmnachoaaDoor.Limb
set_option maxRecDepth 100000
open Go.RowKit Go.Proofs.YtmgfabfmnachoaaDoor.Plain
set_option linter.unusedVariables false
set_option linter.unusedSimpArgs false

/-- a word -/
def Wd (x : Int) : Prop := 0 ≤ x ∧ x < 18446744073709551616
instance (x : Int) : Decidable (Wd x) := by unfold Wd; infer_instance
theorem Wd.nat {x : Int} (h : Wd x) : ∃ n : Nat, x = (n : Int) ∧ n < 18446744073709551616 := by
  unfold Wd at h
  exact ⟨x.toNat, by omega, by omega⟩
theorem Wd.mk {n : Nat} (h : n < 18446744073709551616) : Wd (n : Int) := by unfold Wd; omega
def e4 (N : Nat) : Int × Int × Int × Int := ((wrd 3 N : Nat), (wrd 2 N : Nat), (wrd 1 N : Nat), (wrd 0 N : Nat))
def e2 (N : Nat) : Int × Int := ((wrd 1 N : Nat), (wrd 0 N : Nat))
def n4 (a b c d : Int) : Nat := val4 a.toNat b.toNat c.toNat d.toNat
def n2 (a b : Int) : Nat := val2 a.toNat b.toNat
theorem sub64_run (x y b : Nat) (hb : b ≤ 1) (w : World) :
    (callFunc 46 #[.int .u64 x, .int .u64 y, .int .u64 b]).run Tryd.prog w = .ok (.value (.tuple #[.int .u64 (((x + 18446744073709551616 - y - b) % 18446744073709551616 : Nat) : Int), .int .u64 ((if x < y + b then 1 else 0 : Nat) : Int)])) w := by
  rw [run_callFunc_extern Tryd.func46 (by kernel_rfl) (by kernel_rfl) (by kernel_rfl) (e := Go.Proofs.sub64Entry) (by kernel_rfl), Go.Proofs.run_sub64 x y b hb]
  rfl
theorem diff_of (x y b : Nat) (hb : b ≤ 1) : ∃ s d : Nat, (x + 18446744073709551616 - y - b) % 18446744073709551616 = s ∧ (if x < y + b then 1 else 0) = d ∧ d ≤ 1 ∧ ∀ w, (callFunc 46 #[.int .u64 x, .int .u64 y, .int .u64 b]).run Tryd.prog w = .ok (.value (.tuple #[.int .u64 (s : Int), .int .u64 (d : Int)])) w :=
  ⟨_, _, rfl, rfl, by split <;> decide, sub64_run x y b hb⟩

def limb_Sub.f (a0_0 a0_1 a1_0 a1_1 : Int) : Option (Int × Int × Bool) :=
  if Wd a0_0 ∧ Wd a0_1 ∧ Wd a1_0 ∧ Wd a1_1 then some ((e2 (n2 a0_0 a0_1 + 340282366920938463463374607431768211456 - n2 a1_0 a1_1)).1, (e2 (n2 a0_0 a0_1 + 340282366920938463463374607431768211456 - n2 a1_0 a1_1)).2, decide (n2 a0_0 a0_1 < n2 a1_0 a1_1)) else none
theorem sub_words (a b c d : Nat) (ha : a < 18446744073709551616) (hb : b < 18446744073709551616) (hc : c < 18446744073709551616) (hd : d < 18446744073709551616) (s u s2 u2 : Nat)
    (hs : (b + 18446744073709551616 - d - 0) % 18446744073709551616 = s) (hu : (if b < d + 0 then 1 else 0) = u) (hs2 : (a + 18446744073709551616 - c - u) % 18446744073709551616 = s2) (hu2 : (if a < c + u then 1 else 0) = u2) :
    s2 = wrd 1 (val2 a b + 340282366920938463463374607431768211456 - val2 c d) ∧ s = wrd 0 (val2 a b + 340282366920938463463374607431768211456 - val2 c d) ∧ decide ((u2 : Int) > 0) = decide (val2 a b < val2 c d) := by
  unfold val2 wrd
  simp only [Nat.reducePow]
  refine ⟨?_, ?_, ?_⟩
  · split at hu <;> omega
  · split at hu <;> omega
  · rw [decide_eq_decide]
    split at hu <;> split at hu2 <;> omega
set_option maxHeartbeats 4000000 in
theorem limb_Sub.calls (a0_0 a0_1 a1_0 a1_1 : Int) (r1 r2 : Int) (r3 : Bool) (w : World) (h : limb_Sub.f a0_0 a0_1 a1_0 a1_1 = some (r1, r2, r3)) :
    Calls Tryd.prog 38 #[.agg #[.int .u64 a0_0, .int .u64 a0_1], .agg #[.int .u64 a1_0, .int .u64 a1_1]] w fun e w' => e = .returned (.tuple #[.agg #[.int .u64 r1, .int .u64 r2], .bool r3]) ∧ Below w.heap.size w w' := by
  unfold limb_Sub.f at h
  split at h
  · rename_i hb
    obtain ⟨b1, b2, b3, b4⟩ := hb
    obtain ⟨a, rfl, la⟩ := b1.nat
    obtain ⟨b, rfl, lb⟩ := b2.nat
    obtain ⟨c, rfl, lc⟩ := b3.nat
    obtain ⟨d, rfl, ld⟩ := b4.nat
    obtain ⟨s, u, hs, hu, lu, hr0⟩ := diff_of b d 0 (by decide)
    obtain ⟨s2, u2, hs2, hu2, lu2, hr2⟩ := diff_of a c u lu
    have hr : ∀ w, (callFunc 46 #[.int .u64 (b : Int), .int .u64 (d : Int), .int .u64 0]).run Tryd.prog w = .ok (.value (.tuple #[.int .u64 (s : Int), .int .u64 (u : Int)])) w := hr0
    clear hr0
    obtain ⟨z1, z2, z3⟩ := sub_words a b c d la lb lc ld s u s2 u2 hs hu hs2 hu2
    simp only [n2, e2, Int.toNat_natCast, ← z1, ← z2, ← z3, Option.some.injEq, Prod.mk.injEq] at h
    obtain ⟨rfl, rfl, rfl⟩ := h
    have Z := Go.Lib.hid z3
    clear z1 z2 z3 hs hu hs2 hu2 la lb lc ld b1 b2 b3 b4 lu lu2
    have hu47 := Tryd.underlying47
    go_enter Tryd.func38, Tryd.ntmps38
    go_wp2
    refine bodyPost_ret (v := .tuple #[.agg #[.int .u64 (s2 : Int), .int .u64 (s : Int)], .bool (decide ((u2 : Int) > 0))]) (by simp [results, Tryd.results38, go_sem]) rfl ⟨by rw [Z.out]; congr, ?_⟩
    go_grown
  · exact absurd h (by simp)

end Go.Proofs.YtmgfabfmnachoaaDoor.Limb
