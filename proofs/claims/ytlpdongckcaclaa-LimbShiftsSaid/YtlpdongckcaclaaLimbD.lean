/- A quotient and the rest: what the code computes. -/
import Derived.Test.YtlpdongckcaclaaProg
import Derived.Below
import Derived.Deep.Draws
import Derived.Deep.AppendLies
import Derived.Maps.AppendAt
import Derived.OwnWalk
import Derived.Laws.BytesArg
import Derived.Laws.MakeOwn
import Derived.Laws.OwnMore
import Derived.Deep.OwnRows
import Derived.Tactics
import Derived.Lib.ConvBytes
import Derived.Laws.Slices
import Derived.WalkKit
import Derived.KernelRfl
import Derived.RowKit3
import Derived.Deep.LoopGhost
import Derived.Deep.QuietTactic
import Derived.BigQuiet
import Derived.WideLaws
import Derived.Deep.DeepCutAuto
import Derived.Deep.CutBlock
import Derived.Deep.RegionHeld3
import Derived.Laws.Rows
import Derived.Lib.AppendStr
import Derived.ArgAppend
import Derived.Laws.IdiomCopy
import Derived.OrdersHeld
import Derived.Laws.BitsLemmas
import Derived.RowKit
import Derived.Test.YtlpdongckcaclaaWWords
import Derived.Test.YtlpdongckcaclaaWLast
import Derived.Test.YtlpdongckcaclaaWTab
import Derived.Test.YtlpdongckcaclaaWFour
import Derived.Test.YtlpdongckcaclaaWQPut
import Derived.Test.YtlpdongckcaclaaWApart
import Derived.Test.YtlpdongckcaclaaWArr
import Derived.Test.YtlpdongckcaclaaWZeros
import Derived.Test.YtlpdongckcaclaaWFoot
import Derived.Test.YtlpdongckcaclaaWKept
import Derived.Test.YtlpdongckcaclaaWShare
import Derived.Test.YtlpdongckcaclaaWN
import Derived.Test.YtlpdongckcaclaaWFootNe
import Derived.Test.YtlpdongckcaclaaWAt
import Derived.Test.YtlpdongckcaclaaWEqStruct
import Derived.Test.YtlpdongckcaclaaWRepsOne
import Derived.Test.YtlpdongckcaclaaWInv
import Derived.Test.YtlpdongckcaclaaWInvWords
import Derived.Test.YtlpdongckcaclaaWGuard
import Derived.Test.YtlpdongckcaclaaWNEv
import Derived.Test.YtlpdongckcaclaaWMore
import Derived.Handy
import Derived.RegionTactic
import Derived.Laws.BitsAllLaws
import Derived.Laws.Externs
import Derived.Lib.Hide
import Derived.Shelf.Spec.BitsCarry
import Derived.Test.YtlpdongckcaclaaWide
import Derived.Test.YtlpdongckcaclaaLimbR
namespace Go.Proofs.Ytlpdongckcaclaa.Limb
open Go.RowKit Go.Proofs.YtlpdongckcaclaaW.PrintWords Go.Proofs.YtlpdongckcaclaaW.PrintLast Go.Proofs.YtlpdongckcaclaaW.PrintMore Go.Proofs.Ytlpdongckcaclaa.Plain
set_option linter.unusedVariables false
set_option linter.unusedSimpArgs false

theorem bit_word (x s : Nat) (hx : x < 18446744073709551616) : Go.bits .and .u64 ((x : Int) / 2 ^ s) 1 = ((x / 2 ^ s % 2 : Nat) : Int) := by
  have e : (x : Int) / 2 ^ s = ((x / 2 ^ s : Nat) : Int) := by rw [Int.natCast_ediv, Int.natCast_pow]; rfl
  have h := u64_and_nat (x / 2 ^ s) 1 (Nat.lt_of_le_of_lt (Nat.div_le_self _ _) hx) (by decide)
  rw [nat_mask1] at h
  rw [e]
  exact h
/-- a number's bit -/
theorem bit_calls (a b c d n : Nat) (ha : a < 18446744073709551616) (hb : b < 18446744073709551616) (hc : c < 18446744073709551616) (hd : d < 18446744073709551616) (hn : n < 256) (w : World) :
    Calls Try.prog 32 #[.agg #[.int .u64 d, .int .u64 c, .int .u64 b, .int .u64 a], .int .i64 n] w fun e w' => e = .returned (.int .u64 (val4 a b c d / 2 ^ n % 2 : Nat)) ∧ Below w.heap.size w w' := by
  have hu52 := Try.underlying52
  have hq : n / 64 = 0 ∨ n / 64 = 1 ∨ n / 64 = 2 ∨ n / 64 = 3 := by omega
  rcases hq with hq | hq | hq | hq
  · have hs : n < 64 := by omega
    have E := Go.Lib.hid ((bit_word d n hd).trans (congrArg (fun z : Nat => (z : Int)) ((bit_of a b c d n hd hc hb).1 hs)))
    have hq' : (n : Int) / 64 = 0 := by omega
    have hs' : (n : Int) % 64 = (n : Int) := by omega
    clear hq ha hb hc hd hn
    go_enter Try.func32, Try.ntmps32
    go_wp2
    go_ret
    exact ⟨by rw [← E.out]; simp, by go_grown⟩
  · obtain ⟨s, rfl, hs⟩ : ∃ s, n = 64 + s ∧ s < 64 := ⟨n % 64, by omega, by omega⟩
    have E := Go.Lib.hid ((bit_word c s hc).trans (congrArg (fun z : Nat => (z : Int)) ((bit_of a b c d s hd hc hb).2.1 hs)))
    have hq' : ((64 : Int) + (s : Int)) / 64 = 1 := by omega
    have hs' : ((64 : Int) + (s : Int)) % 64 = (s : Int) := by omega
    clear hq ha hb hc hd hn
    go_enter Try.func32, Try.ntmps32
    go_wp2
    go_ret
    exact ⟨by rw [← E.out]; simp, by go_grown⟩
  · obtain ⟨s, rfl, hs⟩ : ∃ s, n = 128 + s ∧ s < 64 := ⟨n % 64, by omega, by omega⟩
    have E := Go.Lib.hid ((bit_word b s hb).trans (congrArg (fun z : Nat => (z : Int)) ((bit_of a b c d s hd hc hb).2.2.1 hs)))
    have hq' : ((128 : Int) + (s : Int)) / 64 = 2 := by omega
    have hs' : ((128 : Int) + (s : Int)) % 64 = (s : Int) := by omega
    clear hq ha hb hc hd hn
    go_enter Try.func32, Try.ntmps32
    go_wp2
    go_ret
    exact ⟨by rw [← E.out]; simp, by go_grown⟩
  · obtain ⟨s, rfl, hs⟩ : ∃ s, n = 192 + s ∧ s < 64 := ⟨n % 64, by omega, by omega⟩
    have E := Go.Lib.hid ((bit_word a s ha).trans (congrArg (fun z : Nat => (z : Int)) ((bit_of a b c d s hd hc hb).2.2.2 hs)))
    have hq' : ((192 : Int) + (s : Int)) / 64 = 3 := by omega
    have hs' : ((192 : Int) + (s : Int)) % 64 = (s : Int) := by omega
    clear hq ha hb hc hd hn
    go_enter Try.func32, Try.ntmps32
    go_wp2
    go_ret
    exact ⟨by rw [← E.out]; simp, by go_grown⟩

set_option maxRecDepth 100000 in
set_option maxHeartbeats 4000000 in
theorem div_zero (a b c d : Int) (w : World) :
    Calls Try.prog 12 #[.agg #[.int .u64 a, .int .u64 b, .int .u64 c, .int .u64 d], .agg #[.int .u64 0, .int .u64 0]] w fun e w' => e = .returned (.tuple #[.agg #[.int .u64 0, .int .u64 0, .int .u64 0, .int .u64 0], .agg #[.int .u64 0, .int .u64 0], .bool false]) ∧ Below w.heap.size w w' := by
  have hu24 := Try.underlying24
  have hu26 := Try.underlying26
  have hu52 := Try.underlying52
  go_enter Try.func12, Try.ntmps12
  go_wp2
  go_region
  skip
  go_wp2
  refine bodyPost_ret (v := .tuple #[.agg #[.int .u64 0, .int .u64 0, .int .u64 0, .int .u64 0], .agg #[.int .u64 0, .int .u64 0], .bool false]) (by simp [results, Try.results12, go_sem]) rfl ⟨rfl, ?_⟩
  go_grown

theorem eqD24 (d : Nat) (w : World) (x0 y0 : Int) (x1 y1 : Int) :
    (Op.equalIn (d + 2) 24 (.agg #[.int .u64 x0, .int .u64 x1]) (.agg #[.int .u64 y0, .int .u64 y1])).run Try.prog w = .ok (x0 == y0 && (x1 == y1)) w := by
  refine eqA_of Try.underlying24 (by kernel_rfl) ?_
  refine eqf_cons (by rfl) (by go_simp; rfl) (by go_simp; rfl) (by go_simp) ?_
  exact eqf_last (by rfl) (by go_simp; rfl) (by go_simp; rfl) (by go_simp)
/-- the memory of a division under way -/
structure DivMem (w wr : World) (g3 g4 g5 g7 g8 : Nat) (p q a b c d r1 r0 o3 o2 o1 o0 : Nat) : Prop where
  k3 : wr.heap[g3]? = some (.cells #[.int .u64 p, .int .u64 q] 24 (0, 0))
  k4 : wr.heap[g4]? = some (.cells #[.int .u64 0, .int .u64 0, .int .u64 0, .int .u64 0] 26 (0, 0))
  k5 : wr.heap[g5]? = some (.cells #[.int .u64 r1, .int .u64 r0] 24 (0, 0))
  k7 : wr.heap[g7]? = some (.cells #[.int .u64 d, .int .u64 c, .int .u64 b, .int .u64 a] 52 (0, 0))
  k8 : wr.heap[g8]? = some (.cells #[.int .u64 o0, .int .u64 o1, .int .u64 o2, .int .u64 o3] 52 (0, 0))
  kb : Below w.heap.size w wr
theorem DivMem.below {w wr w1 : World} {g3 g4 g5 g7 g8 : Nat} {p q a b c d r1 r0 o3 o2 o1 o0 : Nat} (h : DivMem w wr g3 g4 g5 g7 g8 p q a b c d r1 r0 o3 o2 o1 o0) (hb : Below wr.heap.size wr w1) : DivMem w w1 g3 g4 g5 g7 g8 p q a b c d r1 r0 o3 o2 o1 o0 :=
  ⟨blk_below h.k3 hb, blk_below h.k4 hb, blk_below h.k5 hb, blk_below h.k7 hb, blk_below h.k8 hb, below_step h.kb hb⟩
theorem DivMem.drew {w wr : World} {g3 g4 g5 g7 g8 : Nat} {p q a b c d r1 r0 o3 o2 o1 o0 : Nat} (h : DivMem w wr g3 g4 g5 g7 g8 p q a b c d r1 r0 o3 o2 o1 o0) : DivMem w wr.drew g3 g4 g5 g7 g8 p q a b c d r1 r0 o3 o2 o1 o0 :=
  ⟨h.k3, h.k4, h.k5, h.k7, h.k8, below_drew1 h.kb⟩
/-- what a region of the division reads -/
def DivHeld (w' : World) (g5 g7 : Nat) (r1 r0 a b c d : Nat) : Prop :=
  w'.cell? ⟨g5, 0, none⟩ = some (.int .u64 r1) ∧ w'.cell? ⟨g5, 1, none⟩ = some (.int .u64 r0) ∧ w'.cell? ⟨g7, 0, none⟩ = some (.int .u64 d) ∧ w'.cell? ⟨g7, 1, none⟩ = some (.int .u64 c) ∧ w'.cell? ⟨g7, 2, none⟩ = some (.int .u64 b) ∧ w'.cell? ⟨g7, 3, none⟩ = some (.int .u64 a)
theorem DivMem.held {w wr : World} {g3 g4 g5 g7 g8 : Nat} {p q a b c d r1 r0 o3 o2 o1 o0 : Nat} (h : DivMem w wr g3 g4 g5 g7 g8 p q a b c d r1 r0 o3 o2 o1 o0) : DivHeld wr g5 g7 r1 r0 a b c d :=
  ⟨(blk_cell h.k5 0).trans rfl, (blk_cell h.k5 1).trans rfl, (blk_cell h.k7 0).trans rfl, (blk_cell h.k7 1).trans rfl, (blk_cell h.k7 2).trans rfl, (blk_cell h.k7 3).trans rfl⟩
/-- the numbers of a division under way: m bits are left -/
structure DivNum (A B m R O : Nat) : Prop where
  hm : m ≤ 256
  hR : R = A / 2 ^ m % B
  hO : O = A / 2 ^ m / B * 2 ^ m

def DivOut (w' : World) (g5 g8 : Nat) (r1 r0 o3 o2 o1 o0 : Nat) : Prop :=
  w'.cell? ⟨g5, 0, none⟩ = some (.int .u64 r1) ∧ w'.cell? ⟨g5, 1, none⟩ = some (.int .u64 r0) ∧ w'.cell? ⟨g8, 0, none⟩ = some (.int .u64 o0) ∧ w'.cell? ⟨g8, 1, none⟩ = some (.int .u64 o1) ∧ w'.cell? ⟨g8, 2, none⟩ = some (.int .u64 o2) ∧ w'.cell? ⟨g8, 3, none⟩ = some (.int .u64 o3)
theorem DivMem.outs {w wr : World} {g3 g4 g5 g7 g8 : Nat} {p q a b c d r1 r0 o3 o2 o1 o0 : Nat} (h : DivMem w wr g3 g4 g5 g7 g8 p q a b c d r1 r0 o3 o2 o1 o0) : DivOut wr g5 g8 r1 r0 o3 o2 o1 o0 :=
  ⟨(blk_cell h.k5 0).trans rfl, (blk_cell h.k5 1).trans rfl, (blk_cell h.k8 0).trans rfl, (blk_cell h.k8 1).trans rfl, (blk_cell h.k8 2).trans rfl, (blk_cell h.k8 3).trans rfl⟩
def DivRel (w wr : World) (g3 g4 g5 g7 g8 : Nat) (p q a b c d : Nat) (m : Nat) : Prop :=
  ∃ r1 r0 o3 o2 o1 o0 : Nat, r1 < 18446744073709551616 ∧ r0 < 18446744073709551616 ∧ o3 < 18446744073709551616 ∧ o2 < 18446744073709551616 ∧ o1 < 18446744073709551616 ∧ o0 < 18446744073709551616 ∧ DivMem w wr g3 g4 g5 g7 g8 p q a b c d r1 r0 o3 o2 o1 o0 ∧ DivNum (val4 a b c d) (val2 p q) m (val2 r1 r0) (val4 o3 o2 o1 o0)
theorem divnum_start (A B : Nat) (h : blen A ≤ 256) : DivNum A B (blen A) (val2 0 0) (val4 0 0 0 0) := by
  have e : A / 2 ^ blen A = 0 := Nat.div_eq_of_lt (blen_lt A)
  exact ⟨h, by rw [e]; simp [val2], by rw [e]; simp [val4]⟩
theorem div_round {A B k R O : Nat} (hB : 0 < B) (D : DivNum A B (k + 1) R O) : R < B ∧ O % 2 ^ (k + 1) = 0 ∧
    (2 * R + A / 2 ^ k % 2 < B → DivNum A B k (2 * R + A / 2 ^ k % 2) O) ∧ (B ≤ 2 * R + A / 2 ^ k % 2 → DivNum A B k (2 * R + A / 2 ^ k % 2 - B) (O + 2 ^ k)) := by
  obtain ⟨hm, hR, hO⟩ := D
  have hRB : R < B := by rw [hR]; exact Nat.mod_lt _ hB
  have e1 : A / 2 ^ (k + 1) = A / 2 ^ k / 2 := by rw [Nat.pow_succ, Nat.div_div_eq_div_mul]
  have e2 := Nat.div_add_mod (A / 2 ^ (k + 1)) B
  rw [← hR] at e2
  have e3 : A / 2 ^ k = B * (2 * (A / 2 ^ (k + 1) / B)) + (2 * R + A / 2 ^ k % 2) := by
    have : A / 2 ^ k = 2 * (A / 2 ^ (k + 1)) + A / 2 ^ k % 2 := by rw [e1]; omega
    rw [← e2] at this
    rw [Nat.mul_add, ← Nat.mul_assoc, Nat.mul_comm 2 B, Nat.mul_assoc] at this
    omega
  generalize A / 2 ^ (k + 1) / B = Q at *
  generalize hT : 2 * R + A / 2 ^ k % 2 = T at *
  have hT2 : T < 2 * B := by omega
  refine ⟨hRB, by rw [hO, Nat.mul_mod_left], fun h => ⟨by omega, ?_, ?_⟩, fun h => ⟨by omega, ?_, ?_⟩⟩
  · rw [e3, Nat.mul_add_mod, Nat.mod_eq_of_lt h]
  · rw [e3, Nat.mul_add_div hB, Nat.div_eq_of_lt h, hO, Nat.pow_succ, Nat.add_zero, Nat.mul_comm (2 ^ k) 2, ← Nat.mul_assoc, Nat.mul_comm 2 Q]
  · rw [e3, Nat.mul_add_mod, show T = B * 1 + (T - B) by omega, Nat.mul_add_mod, Nat.mod_eq_of_lt (by omega)]
    omega
  · have : T / B = 1 := Nat.div_eq_of_lt_le (by omega) (by omega)
    rw [e3, Nat.mul_add_div hB, this, hO, Nat.pow_succ, Nat.add_mul, Nat.one_mul, Nat.mul_comm (2 ^ k) 2, ← Nat.mul_assoc, Nat.mul_comm 2 Q]
/-- the rest, doubled, and a bit -/
theorem double_words (r1 r0 e : Nat) (he : e < 2) (h1 : r1 < 18446744073709551616) (h0 : r0 < 18446744073709551616) :
    (r1 * 2 % 18446744073709551616 ||| r0 / 9223372036854775808) < 18446744073709551616 ∧ (r0 * 2 % 18446744073709551616 ||| e) < 18446744073709551616 ∧ val2 (r1 * 2 % 18446744073709551616 ||| r0 / 9223372036854775808) (r0 * 2 % 18446744073709551616 ||| e) = (2 * val2 r1 r0 + e) % 340282366920938463463374607431768211456 := by
  have q1 : (r1 * 2 % 18446744073709551616 ||| r0 / 9223372036854775808) = r1 * 2 % 18446744073709551616 + r0 / 9223372036854775808 := by
    have h := or_add 1 (r1 % 9223372036854775808) (r0 / 9223372036854775808) (by omega)
    rw [Nat.pow_one] at h
    rw [show r1 * 2 % 18446744073709551616 = 2 * (r1 % 9223372036854775808) by omega]
    exact h
  have q2 : (r0 * 2 % 18446744073709551616 ||| e) = r0 * 2 % 18446744073709551616 + e := by
    have h := or_add 1 (r0 % 9223372036854775808) e (by omega)
    rw [Nat.pow_one] at h
    rw [show r0 * 2 % 18446744073709551616 = 2 * (r0 % 9223372036854775808) by omega]
    exact h
  rw [q1, q2]
  unfold val2
  omega
/-- a bit set in a word -/
theorem set_bit (o s : Nat) (hs : s < 64) (ho : o < 18446744073709551616) (h : o % 2 ^ (s + 1) = 0) : o ||| 2 ^ s = o + 2 ^ s ∧ o + 2 ^ s < 18446744073709551616 := by
  have e : o = 2 ^ (s + 1) * (o / 2 ^ (s + 1)) := by have := Nat.div_add_mod o (2 ^ (s + 1)); omega
  have h1 := or_add (s + 1) (o / 2 ^ (s + 1)) (2 ^ s) (Nat.pow_lt_pow_right (by decide) (by omega))
  rw [← e] at h1
  have h2 := Nat.or_lt_two_pow (n := 64) ho (Nat.pow_lt_pow_right (by decide) hs)
  exact ⟨h1, by rw [← h1]; exact h2⟩
theorem word_zero (a b c d k s : Nat) (hs : s < 64) (hb : b < 18446744073709551616) (hc : c < 18446744073709551616) (hd : d < 18446744073709551616) (h : val4 a b c d % 2 ^ (k + 1) = 0) : (k = s → d % 2 ^ (s + 1) = 0) ∧ (k = 64 + s → c % 2 ^ (s + 1) = 0) ∧ (k = 128 + s → b % 2 ^ (s + 1) = 0) ∧ (k = 192 + s → a % 2 ^ (s + 1) = 0) := by
  have hW : 2 ^ (s + 1) * 2 ^ (63 - s) = 18446744073709551616 := by rw [← Nat.pow_add, show s + 1 + (63 - s) = 64 by omega]
  have low : ∀ x y : Nat, (x * 18446744073709551616 + y) % 2 ^ (s + 1) = y % 2 ^ (s + 1) := fun x y => by
    rw [← hW, ← Nat.mul_assoc, Nat.mul_comm x, Nat.mul_assoc, Nat.mul_add_mod]
  have up : ∀ (x y t : Nat), (x * 2 ^ t + y) % 2 ^ (t + (s + 1)) = 0 → y < 2 ^ t → x % 2 ^ (s + 1) = 0 := fun x y t h hy => by
    have h1 : (x * 2 ^ t + y) / 2 ^ t % 2 ^ (s + 1) = 0 := by
      have := Nat.mod_mul_right_div_self (x * 2 ^ t + y) (2 ^ t) (2 ^ (s + 1))
      rw [← Nat.pow_add, h, Nat.zero_div] at this
      exact this.symm
    rwa [Nat.mul_comm, Nat.mul_add_div (Nat.pow_pos (by decide)), Nat.div_eq_of_lt hy, Nat.add_zero] at h1
  have v3 : val4 a b c d = a * 2 ^ 192 + (b * 2 ^ 128 + (c * 2 ^ 64 + d)) := by unfold val4; simp only [Nat.reducePow]; omega
  refine ⟨fun hk => ?_, fun hk => ?_, fun hk => ?_, fun hk => ?_⟩
  · subst hk
    unfold val4 at h
    rw [low] at h
    exact h
  · subst hk
    have e : val4 a b c d = (val4 0 a b c) * 2 ^ 64 + d := by unfold val4; simp only [Nat.reducePow]; omega
    rw [e, show 64 + s + 1 = 64 + (s + 1) by omega] at h
    have h1 := up _ _ _ h hd
    unfold val4 at h1
    rwa [low] at h1
  · subst hk
    have e : val4 a b c d = (val4 0 0 a b) * 2 ^ 128 + (c * 2 ^ 64 + d) := by unfold val4; simp only [Nat.reducePow]; omega
    rw [e, show 128 + s + 1 = 128 + (s + 1) by omega] at h
    have h1 := up _ _ _ h (by simp only [Nat.reducePow]; omega)
    unfold val4 at h1
    rwa [low] at h1
  · subst hk
    rw [v3, show 192 + s + 1 = 192 + (s + 1) by omega] at h
    exact up _ _ _ h (by simp only [Nat.reducePow]; omega)
theorem sub_calls (x1 x0 p q : Nat) (h1 : x1 < 18446744073709551616) (h0 : x0 < 18446744073709551616) (hp : p < 18446744073709551616) (hq : q < 18446744073709551616) (w : World) :
    Calls Try.prog 18 #[.agg #[.int .u64 x1, .int .u64 x0], .agg #[.int .u64 p, .int .u64 q]] w fun e w' => e = .returned (.tuple #[.agg #[.int .u64 (wrd 1 (val2 x1 x0 + 340282366920938463463374607431768211456 - val2 p q) : Nat), .int .u64 (wrd 0 (val2 x1 x0 + 340282366920938463463374607431768211456 - val2 p q) : Nat)], .bool (decide (val2 x1 x0 < val2 p q))]) ∧ Below w.heap.size w w' := by
  refine limb_Sub.calls _ _ _ _ _ _ _ w ?_
  unfold limb_Sub.f
  rw [if_pos ⟨Wd.mk h1, Wd.mk h0, Wd.mk hp, Wd.mk hq⟩]
  simp only [n2, e2, Int.toNat_natCast]
  congr
theorem DivMem.putR {w wr : World} {g3 g4 g5 g7 g8 : Nat} {p q a b c d r1 r0 o3 o2 o1 o0 : Nat} (h : DivMem w wr g3 g4 g5 g7 g8 p q a b c d r1 r0 o3 o2 o1 o0) (n3 : ¬ g3 = g5) (n4 : ¬ g4 = g5) (n7 : ¬ g7 = g5) (n8 : ¬ g8 = g5) (z5 : w.heap.size ≤ g5) (x1 x0 : Nat) :
    DivMem w ((wr.setCell ⟨g5, 0, none⟩ (.int .u64 x1)).setCell ⟨g5, 1, none⟩ (.int .u64 x0)) g3 g4 g5 g7 g8 p q a b c d x1 x0 o3 o2 o1 o0 :=
  ⟨blk_far (blk_far h.k3 n3 _) n3 _, blk_far (blk_far h.k4 n4 _) n4 _, blk_put (blk_put h.k5 0 _ rfl) 1 _ rfl, blk_far (blk_far h.k7 n7 _) n7 _, blk_far (blk_far h.k8 n8 _) n8 _, below_set (below_set h.kb z5) z5⟩
theorem DivMem.putO {w wr : World} {g3 g4 g5 g7 g8 : Nat} {p q a b c d r1 r0 o3 o2 o1 o0 : Nat} (h : DivMem w wr g3 g4 g5 g7 g8 p q a b c d r1 r0 o3 o2 o1 o0) (n3 : ¬ g3 = g8) (n4 : ¬ g4 = g8) (n5 : ¬ g5 = g8) (n7 : ¬ g7 = g8) (z8 : w.heap.size ≤ g8) (x : Nat) :
    DivMem w (wr.setCell ⟨g8, 0, none⟩ (.int .u64 x)) g3 g4 g5 g7 g8 p q a b c d r1 r0 o3 o2 o1 x ∧ DivMem w (wr.setCell ⟨g8, 1, none⟩ (.int .u64 x)) g3 g4 g5 g7 g8 p q a b c d r1 r0 o3 o2 x o0 ∧ DivMem w (wr.setCell ⟨g8, 2, none⟩ (.int .u64 x)) g3 g4 g5 g7 g8 p q a b c d r1 r0 o3 x o1 o0 ∧ DivMem w (wr.setCell ⟨g8, 3, none⟩ (.int .u64 x)) g3 g4 g5 g7 g8 p q a b c d r1 r0 x o2 o1 o0 :=
  ⟨⟨blk_far h.k3 n3 _, blk_far h.k4 n4 _, blk_far h.k5 n5 _, blk_far h.k7 n7 _, blk_put h.k8 0 _ rfl, below_set h.kb z8⟩, ⟨blk_far h.k3 n3 _, blk_far h.k4 n4 _, blk_far h.k5 n5 _, blk_far h.k7 n7 _, blk_put h.k8 1 _ rfl, below_set h.kb z8⟩, ⟨blk_far h.k3 n3 _, blk_far h.k4 n4 _, blk_far h.k5 n5 _, blk_far h.k7 n7 _, blk_put h.k8 2 _ rfl, below_set h.kb z8⟩, ⟨blk_far h.k3 n3 _, blk_far h.k4 n4 _, blk_far h.k5 n5 _, blk_far h.k7 n7 _, blk_put h.k8 3 _ rfl, below_set h.kb z8⟩⟩
theorem DivMem.alloc {w wr : World} {g3 g4 g5 g7 g8 : Nat} {p q a b c d r1 r0 o3 o2 o1 o0 : Nat} (h : DivMem w wr g3 g4 g5 g7 g8 p q a b c d r1 r0 o3 o2 o1 o0) (o : Obj) : DivMem w (wr.alloc o) g3 g4 g5 g7 g8 p q a b c d r1 r0 o3 o2 o1 o0 :=
  ⟨blk_alloc h.k3 _, blk_alloc h.k4 _, blk_alloc h.k5 _, blk_alloc h.k7 _, blk_alloc h.k8 _, below_alloc h.kb _⟩
theorem val2_mod (N : Nat) : val2 (wrd 1 N) (wrd 0 N) = N % 340282366920938463463374607431768211456 := by
  unfold val2 wrd
  simp only [Nat.reducePow]
  omega
/-- the divisor goes in -/
theorem div_in {A B k O x1 x0 r1 r0 e : Nat} (bb ls : Bool) (D : DivNum A B (k + 1) (val2 r1 r0) O) (hB : ¬ B = 0) (hB2 : B < 340282366920938463463374607431768211456) (he : A / 2 ^ k % 2 = e) (hx : val2 x1 x0 = (2 * val2 r1 r0 + e) % 340282366920938463463374607431768211456) (hbb : bb = decide (340282366920938463463374607431768211456 ≤ 2 * val2 r1 r0 + e)) (hls : decide (val2 x1 x0 < B) = ls) (h : (bb || !ls) = true) :
    DivNum A B k (val2 (wrd 1 (val2 x1 x0 + 340282366920938463463374607431768211456 - B)) (wrd 0 (val2 x1 x0 + 340282366920938463463374607431768211456 - B))) (O + 2 ^ k) ∧ O % 2 ^ (k + 1) = 0 := by
  obtain ⟨h1, h2, _, h4⟩ := div_round (Nat.pos_of_ne_zero hB) D
  rw [he] at h4
  generalize val2 r1 r0 = R at *
  have hT : B ≤ 2 * R + e := by
    subst hbb hls
    simp only [Bool.or_eq_true, decide_eq_true_eq, Bool.not_eq_true', decide_eq_false_iff_not] at h
    omega
  have he2 : e < 2 := by omega
  rw [val2_mod, hx, show ((2 * R + e) % 340282366920938463463374607431768211456 + 340282366920938463463374607431768211456 - B) % 340282366920938463463374607431768211456 = 2 * R + e - B by omega]
  exact ⟨h4 hT, h2⟩
/-- it doesn't -/
theorem div_out {A B k O x1 x0 r1 r0 e : Nat} (D : DivNum A B (k + 1) (val2 r1 r0) O) (hB : ¬ B = 0) (he : A / 2 ^ k % 2 = e) (hx : val2 x1 x0 = (2 * val2 r1 r0 + e) % 340282366920938463463374607431768211456) (hbb : false = decide (340282366920938463463374607431768211456 ≤ 2 * val2 r1 r0 + e)) (hls : decide (val2 x1 x0 < B) = true) :
    DivNum A B k (val2 x1 x0) O := by
  obtain ⟨_, _, h3, _⟩ := div_round (Nat.pos_of_ne_zero hB) D
  rw [he] at h3
  have hb : ¬ 340282366920938463463374607431768211456 ≤ 2 * val2 r1 r0 + e := of_decide_eq_false hbb.symm
  have hl := of_decide_eq_true hls
  rw [Nat.mod_eq_of_lt (by omega)] at hx
  rw [hx] at hl ⊢
  exact h3 hl
/-- the quotient with one bit more -/
theorem quot_bit (o3 o2 o1 o0 k s : Nat) (hs : s < 64) (l3 : o3 < 18446744073709551616) (l2 : o2 < 18446744073709551616) (l1 : o1 < 18446744073709551616) (l0 : o0 < 18446744073709551616) (h : val4 o3 o2 o1 o0 % 2 ^ (k + 1) = 0) :
    (k = s → (o0 ||| 2 ^ s) < 18446744073709551616 ∧ val4 o3 o2 o1 (o0 ||| 2 ^ s) = val4 o3 o2 o1 o0 + 2 ^ k) ∧ (k = 64 + s → (o1 ||| 2 ^ s) < 18446744073709551616 ∧ val4 o3 o2 (o1 ||| 2 ^ s) o0 = val4 o3 o2 o1 o0 + 2 ^ k) ∧
    (k = 128 + s → (o2 ||| 2 ^ s) < 18446744073709551616 ∧ val4 o3 (o2 ||| 2 ^ s) o1 o0 = val4 o3 o2 o1 o0 + 2 ^ k) ∧ (k = 192 + s → (o3 ||| 2 ^ s) < 18446744073709551616 ∧ val4 (o3 ||| 2 ^ s) o2 o1 o0 = val4 o3 o2 o1 o0 + 2 ^ k) := by
  obtain ⟨z0, z1, z2, z3⟩ := word_zero o3 o2 o1 o0 k s hs l2 l1 l0 h
  refine ⟨fun e => ?_, fun e => ?_, fun e => ?_, fun e => ?_⟩
  · obtain ⟨b1, b2⟩ := set_bit o0 s hs l0 (z0 e)
    rw [b1, e]
    exact ⟨b2, by unfold val4; omega⟩
  · obtain ⟨b1, b2⟩ := set_bit o1 s hs l1 (z1 e)
    rw [b1, e, Nat.pow_add]
    exact ⟨b2, by unfold val4; simp only [Nat.reducePow]; omega⟩
  · obtain ⟨b1, b2⟩ := set_bit o2 s hs l2 (z2 e)
    rw [b1, e, Nat.pow_add]
    exact ⟨b2, by unfold val4; simp only [Nat.reducePow]; omega⟩
  · obtain ⟨b1, b2⟩ := set_bit o3 s hs l3 (z3 e)
    rw [b1, e, Nat.pow_add]
    exact ⟨b2, by unfold val4; simp only [Nat.reducePow]; omega⟩
theorem set_word (o s : Nat) (hs : s < 64) (ho : o < 18446744073709551616) : Go.bits .or .u64 (o : Int) (IntKind.u64.wrap (2 ^ s)) = ((o ||| 2 ^ s : Nat) : Int) := by
  have hp : 2 ^ s < 18446744073709551616 := Nat.pow_lt_pow_right (by decide) hs
  have e : IntKind.u64.wrap (2 ^ s) = ((2 ^ s : Nat) : Int) := by
    rw [IntKind.wrap_u64, show (2 : Int) ^ s = ((2 ^ s : Nat) : Int) by rw [Int.natCast_pow]; rfl]
    generalize 2 ^ s = P at *
    omega
  rw [e]
  exact u64_or_nat _ _ ho hp
theorem DivMem.putQ {w wr : World} {g3 g4 g5 g7 g8 : Nat} {p q a b c d r1 r0 o3 o2 o1 o0 : Nat} (h : DivMem w wr g3 g4 g5 g7 g8 p q a b c d r1 r0 o3 o2 o1 o0) (n5 : ¬ g5 = g4) (n8 : ¬ g8 = g4) (z4 : w.heap.size ≤ g4) {x3 x2 x1 x0 : Int} :
    DivOut ((((wr.setCell ⟨g4, 0, none⟩ (.int .u64 x3)).setCell ⟨g4, 1, none⟩ (.int .u64 x2)).setCell ⟨g4, 2, none⟩ (.int .u64 x1)).setCell ⟨g4, 3, none⟩ (.int .u64 x0)) g5 g8 r1 r0 o3 o2 o1 o0 ∧
    ((((wr.setCell ⟨g4, 0, none⟩ (.int .u64 x3)).setCell ⟨g4, 1, none⟩ (.int .u64 x2)).setCell ⟨g4, 2, none⟩ (.int .u64 x1)).setCell ⟨g4, 3, none⟩ (.int .u64 x0)).heap[g4]? = some (.cells #[.int .u64 x3, .int .u64 x2, .int .u64 x1, .int .u64 x0] 26 (0, 0)) ∧
    ((((wr.setCell ⟨g4, 0, none⟩ (.int .u64 x3)).setCell ⟨g4, 1, none⟩ (.int .u64 x2)).setCell ⟨g4, 2, none⟩ (.int .u64 x1)).setCell ⟨g4, 3, none⟩ (.int .u64 x0)).heap[g5]? = some (.cells #[.int .u64 r1, .int .u64 r0] 24 (0, 0)) ∧
    Below w.heap.size w ((((wr.setCell ⟨g4, 0, none⟩ (.int .u64 x3)).setCell ⟨g4, 1, none⟩ (.int .u64 x2)).setCell ⟨g4, 2, none⟩ (.int .u64 x1)).setCell ⟨g4, 3, none⟩ (.int .u64 x0)) := by
  have k5 := blk_far (blk_far (blk_far (blk_far h.k5 (p := ⟨g4, 0, none⟩) n5 (.int .u64 x3)) (p := ⟨g4, 1, none⟩) n5 (.int .u64 x2)) (p := ⟨g4, 2, none⟩) n5 (.int .u64 x1)) (p := ⟨g4, 3, none⟩) n5 (.int .u64 x0)
  have k8 := blk_far (blk_far (blk_far (blk_far h.k8 (p := ⟨g4, 0, none⟩) n8 (.int .u64 x3)) (p := ⟨g4, 1, none⟩) n8 (.int .u64 x2)) (p := ⟨g4, 2, none⟩) n8 (.int .u64 x1)) (p := ⟨g4, 3, none⟩) n8 (.int .u64 x0)
  refine ⟨⟨(blk_cell k5 0).trans rfl, (blk_cell k5 1).trans rfl, (blk_cell k8 0).trans rfl, (blk_cell k8 1).trans rfl, (blk_cell k8 2).trans rfl, (blk_cell k8 3).trans rfl⟩, blk_put (blk_put (blk_put (blk_put h.k4 0 _ rfl) 1 _ rfl) 2 _ rfl) 3 _ rfl, k5, below_set (below_set (below_set (below_set h.kb z4) z4) z4) z4⟩
theorem div_end {A B r1 r0 o3 o2 o1 o0 : Nat} (D : DivNum A B 0 (val2 r1 r0) (val4 o3 o2 o1 o0)) (l1 : r1 < 18446744073709551616) (l0 : r0 < 18446744073709551616) (m3 : o3 < 18446744073709551616) (m2 : o2 < 18446744073709551616) (m1 : o1 < 18446744073709551616) (m0 : o0 < 18446744073709551616) :
    wrd 3 (A / B) = o3 ∧ wrd 2 (A / B) = o2 ∧ wrd 1 (A / B) = o1 ∧ wrd 0 (A / B) = o0 ∧ wrd 1 (A % B) = r1 ∧ wrd 0 (A % B) = r0 := by
  obtain ⟨_, hR, hO⟩ := D
  rw [Nat.pow_zero, Nat.div_one] at hR
  rw [Nat.pow_zero, Nat.div_one, Nat.mul_one] at hO
  obtain ⟨v1, v2, v3, v4⟩ := words_of4 m3 m2 m1 m0 hO
  obtain ⟨u1, u2⟩ := words_of2 l1 l0 hR
  exact ⟨v1, v2, v3, v4, u1, u2⟩
theorem beyond_iff (r1 r0 e : Nat) (he : e < 2) (h0 : r0 < 18446744073709551616) : decide (0 < (r1 : Int) / 9223372036854775808) = decide (340282366920938463463374607431768211456 ≤ 2 * val2 r1 r0 + e) := by
  rw [decide_eq_decide]; unfold val2; omega
theorem hi_word (r1 r0 : Nat) (h0 : r0 < 18446744073709551616) : Go.bits .or .u64 (IntKind.u64.wrap ((r1 : Int) * 2)) ((r0 : Int) / 9223372036854775808) = ((r1 * 2 % 18446744073709551616 ||| r0 / 9223372036854775808 : Nat) : Int) := by
  rw [show IntKind.u64.wrap ((r1 : Int) * 2) = ((r1 * 2 % 18446744073709551616 : Nat) : Int) by rw [IntKind.wrap_u64]; omega, show (r0 : Int) / 9223372036854775808 = ((r0 / 9223372036854775808 : Nat) : Int) by omega]
  exact u64_or_nat _ _ (Nat.mod_lt _ (by decide)) (by omega)
theorem lo_word (r0 e : Nat) (he : e < 2) : Go.bits .or .u64 (IntKind.u64.wrap ((r0 : Int) * 2)) (e : Int) = ((r0 * 2 % 18446744073709551616 ||| e : Nat) : Int) := by
  rw [show IntKind.u64.wrap ((r0 : Int) * 2) = ((r0 * 2 % 18446744073709551616 : Nat) : Int) by rw [IntKind.wrap_u64]; omega]
  exact u64_or_nat _ _ (Nat.mod_lt _ (by decide)) (by omega)

set_option maxRecDepth 100000 in
set_option maxHeartbeats 16000000 in
theorem div_any (a b c d p q : Nat) (la : a < 18446744073709551616) (lb : b < 18446744073709551616) (lc : c < 18446744073709551616) (ld : d < 18446744073709551616) (lp : p < 18446744073709551616) (lq : q < 18446744073709551616) (hne : ¬ val2 p q = 0) (w : World) :
    Calls Try.prog 12 #[.agg #[.int .u64 a, .int .u64 b, .int .u64 c, .int .u64 d], .agg #[.int .u64 p, .int .u64 q]] w fun e w' => e = .returned (.tuple #[.agg #[.int .u64 (wrd 3 (val4 a b c d / val2 p q) : Nat), .int .u64 (wrd 2 (val4 a b c d / val2 p q) : Nat), .int .u64 (wrd 1 (val4 a b c d / val2 p q) : Nat), .int .u64 (wrd 0 (val4 a b c d / val2 p q) : Nat)], .agg #[.int .u64 (wrd 1 (val4 a b c d % val2 p q) : Nat), .int .u64 (wrd 0 (val4 a b c d % val2 p q) : Nat)], .bool true]) ∧ Below w.heap.size w w' := by
  have hu24 := Try.underlying24
  have hu26 := Try.underlying26
  have hu52 := Try.underlying52
  have hz : ((p : Int) == 0 && ((q : Int) == 0)) = false := by unfold val2 at hne; rw [Bool.and_eq_false_iff]; simp; omega
  have heq : ∀ (d : Nat) (w : World), (Op.equalIn (d + 2) 24 (.agg #[.int .u64 p, .int .u64 q]) (.agg #[.int .u64 0, .int .u64 0])).run Try.prog w = .ok false w := fun d w => (eqD24 d w _ _ _ _).trans (by rw [hz])
  have hla := Go.Lib.hid la
  have hlb := Go.Lib.hid lb
  have hlc := Go.Lib.hid lc
  have hld := Go.Lib.hid ld
  have hlp := Go.Lib.hid lp
  have hlq := Go.Lib.hid lq
  have hn0 := Go.Lib.hid hne
  clear la lb lc ld lp lq hne hz
  go_enter Try.func12, Try.ntmps12
  go_wp2_with fail
  refine (limb_list.calls0 _ _ _ _ _).mono ?_
  rintro e wl ⟨rfl, hbl⟩
  have k3 : wl.heap[w.heap.size + 1]? = some (.cells #[.int .u64 p, .int .u64 q] 24 (0, 0)) := blk_below (by simpa using blk_alloc (blk_alloc (blk_new (w.alloc (.cells #[.int .u64 a, .int .u64 b, .int .u64 c, .int .u64 d] 26)) (.cells #[.int .u64 p, .int .u64 q] 24)) _) _) hbl
  have k4 : wl.heap[w.heap.size + 1 + 1]? = some (.cells #[.int .u64 0, .int .u64 0, .int .u64 0, .int .u64 0] 26 (0, 0)) := blk_below (by simpa using blk_alloc (blk_new ((w.alloc (.cells #[.int .u64 a, .int .u64 b, .int .u64 c, .int .u64 d] 26)).alloc (.cells #[.int .u64 p, .int .u64 q] 24)) (.cells #[.int .u64 0, .int .u64 0, .int .u64 0, .int .u64 0] 26)) _) hbl
  have k5 : wl.heap[w.heap.size + 1 + 1 + 1]? = some (.cells #[.int .u64 0, .int .u64 0] 24 (0, 0)) := blk_below (by simpa using blk_new (((w.alloc (.cells #[.int .u64 a, .int .u64 b, .int .u64 c, .int .u64 d] 26)).alloc (.cells #[.int .u64 p, .int .u64 q] 24)).alloc (.cells #[.int .u64 0, .int .u64 0, .int .u64 0, .int .u64 0] 26)) (.cells #[.int .u64 0, .int .u64 0] 24)) hbl
  have kb : Below w.heap.size w wl := Below.trans (by go_grown) (hbl.mono (by simp; omega))
  have z0 : w.heap.size + 4 ≤ wl.heap.size := by have := hbl.size; simp at this; omega
  have k2 : wl.heap[w.heap.size]? = some (.cells #[.int .u64 a, .int .u64 b, .int .u64 c, .int .u64 d] 26 (0, 0)) := blk_below (blk_alloc (blk_alloc (blk_alloc (blk_new w (.cells #[.int .u64 a, .int .u64 b, .int .u64 c, .int .u64 d] 26)) _) _) _) hbl
  have c20 : wl.cell? ⟨w.heap.size, 0, none⟩ = some (.int .u64 a) := (blk_cell k2 0).trans rfl
  have c21 : wl.cell? ⟨w.heap.size, 1, none⟩ = some (.int .u64 b) := (blk_cell k2 1).trans rfl
  have c22 : wl.cell? ⟨w.heap.size, 2, none⟩ = some (.int .u64 c) := (blk_cell k2 2).trans rfl
  have c23 : wl.cell? ⟨w.heap.size, 3, none⟩ = some (.int .u64 d) := (blk_cell k2 3).trans rfl
  have y0 : w.heap.size < wl.heap.size := by omega
  have y1 : w.heap.size < wl.heap.size + 1 := by omega
  have K3 := Go.Lib.hid k3
  have K4 := Go.Lib.hid k4
  have K5 := Go.Lib.hid k5
  clear hbl k2 k3 k4 k5
  go_wp2_with fail
  have k3 := K3.out
  have k4 := K4.out
  have k5 := K5.out
  clear c20 c21 c22 c23 y0 y1 K3 K4 K5
  refine (len_cases a b c d hla.out hlb.out hlc.out hld.out _).mono ?_
  rintro e w2 ⟨rfl, hb2⟩
  have k7 : w2.heap[wl.heap.size]? = some (.cells #[.int .u64 d, .int .u64 c, .int .u64 b, .int .u64 a] 52 (0, 0)) := blk_below (blk_alloc (blk_new wl (.cells #[.int .u64 d, .int .u64 c, .int .u64 b, .int .u64 a] 52)) _) hb2
  have k8 : w2.heap[wl.heap.size + 1]? = some (.cells #[.int .u64 0, .int .u64 0, .int .u64 0, .int .u64 0] 52 (0, 0)) := blk_below (by simpa using blk_new (wl.alloc (.cells #[.int .u64 d, .int .u64 c, .int .u64 b, .int .u64 a] 52)) (.cells #[.int .u64 0, .int .u64 0, .int .u64 0, .int .u64 0] 52)) hb2
  have M : DivMem w w2 (w.heap.size + 1) (w.heap.size + 1 + 1) (w.heap.size + 1 + 1 + 1) wl.heap.size (wl.heap.size + 1) p q a b c d 0 0 0 0 0 0 :=
    ⟨blk_below (blk_alloc (blk_alloc k3 _) _) hb2, blk_below (blk_alloc (blk_alloc k4 _) _) hb2, blk_below (blk_alloc (blk_alloc k5 _) _) hb2, k7, k8, below_step (below_alloc (below_alloc kb _) _) hb2⟩
  clear k3 k4 k5 k7 k8 kb hb2
  have hln : blen (val4 a b c d) ≤ 256 := (blen_le _ 256).2 (val4_lt hla.out hlb.out hlc.out hld.out)
  generalize hg3 : w.heap.size + 1 = g3 at *
  generalize hg4 : g3 + 1 = g4 at *
  generalize hg5 : g4 + 1 = g5 at *
  generalize hg7 : wl.heap.size = g7 at *
  generalize hg8 : g7 + 1 = g8 at *
  have n34 : ¬ g3 = g4 := by omega
  have n35 : ¬ g3 = g5 := by omega
  have n37 : ¬ g3 = g7 := by omega
  have n38 : ¬ g3 = g8 := by omega
  have n45 : ¬ g4 = g5 := by omega
  have n47 : ¬ g4 = g7 := by omega
  have n48 : ¬ g4 = g8 := by omega
  have n57 : ¬ g5 = g7 := by omega
  have n58 : ¬ g5 = g8 := by omega
  have n78 : ¬ g7 = g8 := by omega
  have n43 : ¬ g4 = g3 := by omega
  have n53 : ¬ g5 = g3 := by omega
  have n73 : ¬ g7 = g3 := by omega
  have n83 : ¬ g8 = g3 := by omega
  have n54 : ¬ g5 = g4 := by omega
  have n74 : ¬ g7 = g4 := by omega
  have n84 : ¬ g8 = g4 := by omega
  have n75 : ¬ g7 = g5 := by omega
  have n85 : ¬ g8 = g5 := by omega
  have n87 : ¬ g8 = g7 := by omega
  have z3 : w.heap.size ≤ g3 := by omega
  have z4 : w.heap.size ≤ g4 := by omega
  have z5 : w.heap.size ≤ g5 := by omega
  have z8 : w.heap.size ≤ g8 := by omega
  clear hg3 hg4 hg5 hg7 hg8 z0
  clear heq
  go_wp2_with fail
  have D0 := divnum_start (val4 a b c d) (val2 p q) hln
  go_loopw [9] (fun v9 wr => ∃ m : Nat, v9 = .int .i64 ((m : Int) - 1) ∧ DivRel w wr g3 g4 g5 g7 g8 p q a b c d m) (fun v9 _ => (intOf v9 + 1).toNat)
  case atStart => exact ⟨blen (val4 a b c d), rfl, 0, 0, 0, 0, 0, 0, by decide, by decide, by decide, by decide, by decide, by decide, M, D0⟩
  case round =>
    clear M D0 hln
    obtain ⟨m, rfl, r1, r0, o3, o2, o1, o0, l1, l0, m3, m2, m1, m0, M, D⟩ := hrel
    have Hl1 := Go.Lib.hid l1
    have Hl0 := Go.Lib.hid l0
    have Hm3 := Go.Lib.hid m3
    have Hm2 := Go.Lib.hid m2
    have Hm1 := Go.Lib.hid m1
    have Hm0 := Go.Lib.hid m0
    have Mh := Go.Lib.hid M
    have Dh := Go.Lib.hid D
    have hk := D.hm
    clear l1 l0 m3 m2 m1 m0 D
    cases m with
    | zero =>
      as_aux_lemma =>
        rw [show (((0 : Nat) : Int) - 1) = -1 from rfl]
        go_wp2_with fail
        skip
        refine start_ (n := 6) (S := fun w' => DivOut w' g5 g8 r1 r0 o3 o2 o1 o0) (ds := [4, 5]) #[false, false, false, false, false, false] (by kernel_rfl) rfl rfl Mh.out.drew.outs (fun hHeld => ?_)
        have M5 := Go.Lib.hid Mh.out.drew
        clear Mh
        generalize wr.drew = w5 at M5 hHeld ⊢
        refine take_ (i := 0) (N := some 67) (v := ?_) (a' := ?_) #[true, false, false, false, false, false] rfl rfl (by kernel_rfl) (fun _ _ _ h => h) (Or.inl ⟨by rfl, ?_⟩) hHeld ?_ ?_
        rotate_left
        · rintro w' ⟨s0, s1, s2, s3, s4, s5⟩
          go_simp
          with_reducible rfl
        rotate_left
        · simp only [Act.put, List.setIfInBounds_toArray, List.set_cons_zero, List.set_cons_succ, i64_w, i32_w]
          rfl
        refine take_ (i := 2) (N := some 69) (v := ?_) (a' := ?_) #[true, false, true, false, false, false] rfl rfl (by kernel_rfl) (fun _ _ _ h => h) (Or.inl ⟨by rfl, ?_⟩) hHeld ?_ ?_
        rotate_left
        · rintro w' ⟨s0, s1, s2, s3, s4, s5⟩
          go_simp
          with_reducible rfl
        rotate_left
        · simp only [Act.put, List.setIfInBounds_toArray, List.set_cons_zero, List.set_cons_succ, i64_w, i32_w]
          rfl
        refine one_ (i := 1) (N := some 68) #[true, true, true, false, false, false] rfl rfl (by kernel_rfl) (by decide) (fun K hK => ?_)
        refine goes_ Try.func33 (by kernel_rfl) rfl #[.agg #[.int .u64 (o0 : Int), .int .u64 (o1 : Int), .int .u64 (o2 : Int), .int .u64 (o3 : Int)]] (by rfl) rfl rfl (by (try simp only [List.map_toArray, List.map_cons, List.map_nil]); first | done | rfl) ?_
        refine (limb_four.calls0 _ _ _ _ _).mono ?_
        rintro e0 w6 ⟨rfl, hb6⟩
        refine ⟨_, rfl, ?_⟩
        have M6 := Go.Lib.hid (M5.out.below hb6)
        clear M5 hb6
        refine hK.out _ _ M6.out.outs (fun hHeld => ?_)
        clear hK K
        refine one_ (i := 3) (N := none) #[true, true, true, true, false, false] rfl rfl (by kernel_rfl) (by decide) (fun K hK => ?_)
        have f0 := blk_frozen M6.out.k4 0
        have f1 := blk_frozen M6.out.k4 1
        have f2 := blk_frozen M6.out.k4 2
        have f3 := blk_frozen M6.out.k4 3
        have q0 : w6.cell? ⟨g4, 0, none⟩ = some (.int .u64 0) := (blk_cell M6.out.k4 0).trans rfl
        have q1 : w6.cell? ⟨g4, 1, none⟩ = some (.int .u64 0) := (blk_cell M6.out.k4 1).trans rfl
        have q2 : w6.cell? ⟨g4, 2, none⟩ = some (.int .u64 0) := (blk_cell M6.out.k4 2).trans rfl
        have q3 : w6.cell? ⟨g4, 3, none⟩ = some (.int .u64 0) := (blk_cell M6.out.k4 3).trans rfl
        refine skip_ (w1 := ?_) (by rfl) rfl ?_ ?_
        rotate_left
        · go_simp
          rfl
        clear f0 f1 f2 f3 q0 q1 q2 q3
        have P := Go.Lib.hid (M6.out.putQ n54 n84 z4 (x3 := (o3 : Int)) (x2 := (o2 : Int)) (x1 := (o1 : Int)) (x0 := (o0 : Int)))
        clear M6
        generalize ((((w6.setCell ⟨g4, 0, none⟩ (.int .u64 (o3 : Int))).setCell ⟨g4, 1, none⟩ (.int .u64 (o2 : Int))).setCell ⟨g4, 2, none⟩ (.int .u64 (o1 : Int))).setCell ⟨g4, 3, none⟩ (.int .u64 (o0 : Int))) = w7 at P ⊢
        refine hK.out _ _ P.out.1 (fun hHeld => ?_)
        clear hK K
        refine last_ (i := 4) (N := none) #[true, true, true, true, true, false] rfl rfl (by kernel_rfl) (by decide) (fun K hK => ?_)
        have f0 := blk_frozen P.out.2.2.1 0
        have f1 := blk_frozen P.out.2.2.1 1
        have q0 : w7.cell? ⟨g5, 0, none⟩ = some (.int .u64 (r1 : Int)) := (blk_cell P.out.2.2.1 0).trans rfl
        have q1 : w7.cell? ⟨g5, 1, none⟩ = some (.int .u64 (r0 : Int)) := (blk_cell P.out.2.2.1 1).trans rfl
        refine skip_ (w1 := ?_) (by rfl) rfl ?_ ?_
        rotate_left
        · go_simp
          rfl
        clear f0 f1 q0 q1
        refine hK.out _ _ ?_
        clear hK K
        refine pure_ (i := 5) (N := some 6) (v := ?_) (a' := ?_) #[true, true, true, true, true, true] rfl rfl (by kernel_rfl) (fun _ _ _ h => h) (Or.inl ⟨by rfl, ?_⟩) ?_ ?_
        rotate_left
        · intro w'
          go_simp
          with_reducible rfl
        rotate_left
        · simp only [Act.put, List.setIfInBounds_toArray, List.set_cons_zero, List.set_cons_succ, i64_w, i32_w]
          rfl
        refine done_ (by kernel_rfl) ?_
        have kq := Go.Lib.hid (blk_far (blk_far P.out.2.1 (p := ⟨g5, 0, none⟩) n45 (.int .u64 (r1 : Int))) (p := ⟨g5, 1, none⟩) n45 (.int .u64 (r0 : Int)))
        have kr := Go.Lib.hid (blk_put (blk_put P.out.2.2.1 0 (.int .u64 (r1 : Int)) rfl) 1 (.int .u64 (r0 : Int)) rfl)
        have kw := Go.Lib.hid (below_set (below_set P.out.2.2.2 z5 (j := 0) (v := .int .u64 (r1 : Int))) z5 (j := 1) (v := .int .u64 (r0 : Int)))
        clear P hHeld
        generalize ((w7.setCell ⟨g5, 0, none⟩ (.int .u64 (r1 : Int))).setCell ⟨g5, 1, none⟩ (.int .u64 (r0 : Int))) = w8 at kq kr kw ⊢
        have a0 : w8.cell? ⟨g4, 0, none⟩ = some (.int .u64 (o3 : Int)) := (blk_cell kq.out 0).trans rfl
        have a1 : w8.cell? ⟨g4, 1, none⟩ = some (.int .u64 (o2 : Int)) := (blk_cell kq.out 1).trans rfl
        have a2 : w8.cell? ⟨g4, 2, none⟩ = some (.int .u64 (o1 : Int)) := (blk_cell kq.out 2).trans rfl
        have a3 : w8.cell? ⟨g4, 3, none⟩ = some (.int .u64 (o0 : Int)) := (blk_cell kq.out 3).trans rfl
        have b0 : w8.cell? ⟨g5, 0, none⟩ = some (.int .u64 (r1 : Int)) := (blk_cell kr.out 0).trans rfl
        have b1 : w8.cell? ⟨g5, 1, none⟩ = some (.int .u64 (r0 : Int)) := (blk_cell kr.out 1).trans rfl
        go_wp2
        clear a0 a1 a2 a3 b0 b1
        refine bodyPost_ret (results_list (rs := [.cell 4 26, .cell 5 24, .tmp 6]) rfl (by simp) (.cell g4 26 #[.int .u64 (o3 : Int), .int .u64 (o2 : Int), .int .u64 (o1 : Int), .int .u64 (o0 : Int)] (0, 0) _ rfl (kq.out) Try.underlying26 rfl (by kernel_rfl) (.cell g5 24 #[.int .u64 (r1 : Int), .int .u64 (r0 : Int)] (0, 0) _ rfl (kr.out) Try.underlying24 rfl (by kernel_rfl) (.tmp .nil)))) rfl ⟨?_, kw.out⟩
        have F := div_end Dh.out Hl1.out Hl0.out Hm3.out Hm2.out Hm1.out Hm0.out
        obtain ⟨F1, F2, F3, F4, F5, F6⟩ := F
        rw [F1, F2, F3, F4, F5, F6]
        rfl

    | succ k =>
      as_aux_lemma =>
      rw [show (((k + 1 : Nat) : Int) - 1) = (k : Int) by omega]
      have c50 := M.held.1
      have c51 := M.held.2.1
      clear M
      go_wp2_with fail
      clear c50 c51
      have hd0 : DivHeld wr g5 g7 r1 r0 a b c d := Mh.out.held
      obtain ⟨e, he⟩ : ∃ e, val4 a b c d / 2 ^ k % 2 = e := ⟨_, rfl⟩
      have He := Go.Lib.hid he
      clear he
      refine start_ (n := 16) (S := fun w' => DivHeld w' g5 g7 r1 r0 a b c d) (ds := [15]) #[false, false, false, false, false, false, false, false, false, false, false, false, false, false, false, false] (by kernel_rfl) rfl rfl Mh.out.drew.held (fun hHeld => ?_)
      have M5 := Go.Lib.hid Mh.out.drew
      clear Mh
      generalize wr.drew = w5 at M5 hHeld ⊢
      refine pure_ (i := 0) (N := some 31) (v := ?_) (a' := ?_) #[true, false, false, false, false, false, false, false, false, false, false, false, false, false, false, false] rfl rfl (by kernel_rfl) (fun _ _ _ h => h) (Or.inl ⟨by rfl, ?_⟩) ?_ ?_
      rotate_left
      · intro w'
        go_simp
        with_reducible rfl
      rotate_left
      · simp only [Act.put, List.setIfInBounds_toArray, List.set_cons_zero, List.set_cons_succ, i64_w, i32_w]
        rfl
      refine take_ (i := 1) (N := some 32) (v := ?_) (a' := ?_) #[true, true, false, false, false, false, false, false, false, false, false, false, false, false, false, false] rfl rfl (by kernel_rfl) (fun _ _ _ h => h) (Or.inl ⟨by rfl, ?_⟩) hHeld ?_ ?_
      rotate_left
      · rintro w' ⟨s0, s1, s2, s3, s4, s5⟩
        go_simp
        with_reducible rfl
      rotate_left
      · simp only [Act.put, List.setIfInBounds_toArray, List.set_cons_zero, List.set_cons_succ, i64_w, i32_w]
        rfl
      refine pure_ (i := 2) (N := some 33) (v := ?_) (a' := ?_) #[true, true, true, false, false, false, false, false, false, false, false, false, false, false, false, false] rfl rfl (by kernel_rfl) (fun _ _ _ h => h) (Or.inl ⟨by rfl, ?_⟩) ?_ ?_
      rotate_left
      · intro w'
        go_simp
        with_reducible rfl
      rotate_left
      · simp only [Act.put, List.setIfInBounds_toArray, List.set_cons_zero, List.set_cons_succ, i64_w, i32_w]
        rfl
      refine pure_ (i := 3) (N := some 34) (v := ?_) (a' := ?_) #[true, true, true, true, false, false, false, false, false, false, false, false, false, false, false, false] rfl rfl (by kernel_rfl) (fun _ _ _ h => h) (Or.inl ⟨by rfl, ?_⟩) ?_ ?_
      rotate_left
      · intro w'
        go_simp
        with_reducible rfl
      rotate_left
      · simp only [Act.put, List.setIfInBounds_toArray, List.set_cons_zero, List.set_cons_succ, i64_w, i32_w]
        rfl
      refine take_ (i := 4) (N := some 35) (v := ?_) (a' := ?_) #[true, true, true, true, true, false, false, false, false, false, false, false, false, false, false, false] rfl rfl (by kernel_rfl) (fun _ _ _ h => h) (Or.inl ⟨by rfl, ?_⟩) hHeld ?_ ?_
      rotate_left
      · rintro w' ⟨s0, s1, s2, s3, s4, s5⟩
        go_simp
        with_reducible rfl
      rotate_left
      · simp only [Act.put, List.setIfInBounds_toArray, List.set_cons_zero, List.set_cons_succ, i64_w, i32_w]
        rfl
      refine pure_ (i := 5) (N := some 36) (v := ?_) (a' := ?_) #[true, true, true, true, true, true, false, false, false, false, false, false, false, false, false, false] rfl rfl (by kernel_rfl) (fun _ _ _ h => h) (Or.inl ⟨by rfl, ?_⟩) ?_ ?_
      rotate_left
      · intro w'
        go_simp
        with_reducible rfl
      rotate_left
      · simp only [Act.put, List.setIfInBounds_toArray, List.set_cons_zero, List.set_cons_succ, i64_w, i32_w]
        rfl
      refine pure_ (i := 6) (N := some 37) (v := ?_) (a' := ?_) #[true, true, true, true, true, true, true, false, false, false, false, false, false, false, false, false] rfl rfl (by kernel_rfl) (fun _ _ _ h => h) (Or.inl ⟨by rfl, ?_⟩) ?_ ?_
      rotate_left
      · intro w'
        go_simp
        with_reducible rfl
      rotate_left
      · simp only [Act.put, List.setIfInBounds_toArray, List.set_cons_zero, List.set_cons_succ, i64_w, i32_w]
        rfl
      refine pure_ (i := 7) (N := some 38) (v := ?_) (a' := ?_) #[true, true, true, true, true, true, true, true, false, false, false, false, false, false, false, false] rfl rfl (by kernel_rfl) (fun _ _ _ h => h) (Or.inl ⟨by rfl, ?_⟩) ?_ ?_
      rotate_left
      · intro w'
        go_simp
        with_reducible rfl
      rotate_left
      · simp only [Act.put, List.setIfInBounds_toArray, List.set_cons_zero, List.set_cons_succ, i64_w, i32_w]
        rfl
      refine take_ (i := 8) (N := some 39) (v := ?_) (a' := ?_) #[true, true, true, true, true, true, true, true, true, false, false, false, false, false, false, false] rfl rfl (by kernel_rfl) (fun _ _ _ h => h) (Or.inl ⟨by rfl, ?_⟩) hHeld ?_ ?_
      rotate_left
      · rintro w' ⟨s0, s1, s2, s3, s4, s5⟩
        go_simp
        with_reducible rfl
      rotate_left
      · simp only [Act.put, List.setIfInBounds_toArray, List.set_cons_zero, List.set_cons_succ, i64_w, i32_w]
        rfl
      refine pure_ (i := 9) (N := some 40) (v := ?_) (a' := ?_) #[true, true, true, true, true, true, true, true, true, true, false, false, false, false, false, false] rfl rfl (by kernel_rfl) (fun _ _ _ h => h) (Or.inl ⟨by rfl, ?_⟩) ?_ ?_
      rotate_left
      · intro w'
        go_simp
        with_reducible rfl
      rotate_left
      · simp only [Act.put, List.setIfInBounds_toArray, List.set_cons_zero, List.set_cons_succ, i64_w, i32_w]
        rfl
      refine take_ (i := 10) (N := some 41) (v := ?_) (a' := ?_) #[true, true, true, true, true, true, true, true, true, true, true, false, false, false, false, false] rfl rfl (by kernel_rfl) (fun _ _ _ h => h) (Or.inl ⟨by rfl, ?_⟩) hHeld ?_ ?_
      rotate_left
      · rintro w' ⟨s0, s1, s2, s3, s4, s5⟩
        go_simp
        with_reducible rfl
      rotate_left
      · simp only [Act.put, List.setIfInBounds_toArray, List.set_cons_zero, List.set_cons_succ, i64_w, i32_w]
        rfl
      refine pure_ (i := 11) (N := some 42) (v := ?_) (a' := ?_) #[true, true, true, true, true, true, true, true, true, true, true, true, false, false, false, false] rfl rfl (by kernel_rfl) (fun _ _ _ h => h) (Or.inl ⟨by rfl, ?_⟩) ?_ ?_
      rotate_left
      · intro w'
        go_simp
        with_reducible rfl
      rotate_left
      · simp only [Act.put, List.setIfInBounds_toArray, List.set_cons_zero, List.set_cons_succ, i64_w, i32_w]
        rfl
      refine one_ (i := 12) (N := some 43) #[true, true, true, true, true, true, true, true, true, true, true, true, true, false, false, false] rfl rfl (by kernel_rfl) (by decide) (fun K hK => ?_)
      refine goes_ Try.func32 (by kernel_rfl) rfl #[.agg #[.int .u64 (d : Int), .int .u64 (c : Int), .int .u64 (b : Int), .int .u64 (a : Int)], .int .i64 (k : Int)] (by rfl) rfl rfl (by (try simp only [List.map_toArray, List.map_cons, List.map_nil]); first | done | rfl) ?_
      have hbc := bit_calls a b c d k hla.out hlb.out hlc.out hld.out (by omega) w5
      rw [He.out] at hbc
      refine hbc.mono ?_
      clear hbc
      rintro e0 w6 ⟨rfl, hb6⟩
      refine ⟨_, rfl, ?_⟩
      have M6 := Go.Lib.hid (M5.out.below hb6)
      clear M5 hb6
      refine hK.out _ _ M6.out.held (fun hHeld => ?_)
      clear hK K
      refine pure_ (i := 13) (N := some 44) (v := ?_) (a' := ?_) #[true, true, true, true, true, true, true, true, true, true, true, true, true, true, false, false] rfl rfl (by kernel_rfl) (fun _ _ _ h => h) (Or.inl ⟨by rfl, ?_⟩) ?_ ?_
      rotate_left
      · intro w'
        go_simp
        with_reducible rfl
      rotate_left
      · simp only [Act.put, List.setIfInBounds_toArray, List.set_cons_zero, List.set_cons_succ, i64_w, i32_w]
        rfl
      refine pure_ (i := 14) (N := some 45) (v := ?_) (a' := ?_) #[true, true, true, true, true, true, true, true, true, true, true, true, true, true, true, false] rfl rfl (by kernel_rfl) (fun _ _ _ h => h) (Or.inl ⟨by rfl, ?_⟩) ?_ ?_
      rotate_left
      · intro w'
        go_simp
        with_reducible rfl
      rotate_left
      · simp only [Act.put, List.setIfInBounds_toArray, List.set_cons_zero, List.set_cons_succ, i64_w, i32_w]
        rfl
      refine last_ (i := 15) (N := none) #[true, true, true, true, true, true, true, true, true, true, true, true, true, true, true, true] rfl rfl (by kernel_rfl) (by decide) (fun K hK => ?_)
      have hs0 := hHeld.1
      have hs1 := hHeld.2.1
      have hf0 := blk_frozen M6.out.k5 0
      have hf1 := blk_frozen M6.out.k5 1
      refine skip_ (w1 := ?_) (by rfl) rfl ?_ ?_
      rotate_left
      · go_simp
        rfl
      clear hs0 hs1 hf0 hf1
      refine hK.out _ _ ?_
      clear hK K
      refine done_ (by kernel_rfl) ?_

      clear hHeld
      have he2 : e < 2 := by have := He.out; omega
      have T1 := hi_word r1 r0 Hl0.out
      have T2 := lo_word r0 e he2
      rw [T1, T2]
      obtain ⟨lx1, lx0, hx⟩ := double_words r1 r0 e he2 Hl1.out Hl0.out
      have hbey := beyond_iff r1 r0 e he2 Hl0.out
      clear T1 T2
      generalize r1 * 2 % 18446744073709551616 ||| r0 / 9223372036854775808 = x1 at *
      generalize r0 * 2 % 18446744073709551616 ||| e = x0 at *
      generalize hbb : decide (0 < (r1 : Int) / 9223372036854775808) = bb at *
      have M7 := Go.Lib.hid (M6.out.putR n35 n45 n75 n85 z5 x1 x0)
      clear M6
      generalize ((w6.setCell ⟨g5, 0, none⟩ (.int .u64 (x1 : Int))).setCell ⟨g5, 1, none⟩ (.int .u64 (x0 : Int))) = w7 at M7 ⊢
      have Hx1 := Go.Lib.hid lx1
      have Hx0 := Go.Lib.hid lx0
      have Hx := Go.Lib.hid hx
      have Hbey := Go.Lib.hid hbey
      have Hbb := Go.Lib.hid hbb
      clear lx1 lx0 hx hbey hbb
      have c50 : w7.cell? ⟨g5, 0, none⟩ = some (.int .u64 x1) := (blk_cell M7.out.k5 0).trans rfl
      have c51 : w7.cell? ⟨g5, 1, none⟩ = some (.int .u64 x0) := (blk_cell M7.out.k5 1).trans rfl
      have c30 : w7.cell? ⟨g3, 0, none⟩ = some (.int .u64 p) := (blk_cell M7.out.k3 0).trans rfl
      have c31 : w7.cell? ⟨g3, 1, none⟩ = some (.int .u64 q) := (blk_cell M7.out.k3 1).trans rfl
      go_wp2_with fail
      refine (sub_calls x1 x0 p q Hx1.out Hx0.out hlp.out hlq.out _).mono ?_
      rintro e1 w8 ⟨rfl, hb8⟩
      have M8 := Go.Lib.hid (M7.out.below hb8)
      clear M7 c50 c51 c30 c31 hb8
      generalize hls : decide (val2 x1 x0 < val2 p q) = ls
      have Hls := Go.Lib.hid hls
      clear hls
      have f50 := blk_frozen M8.out.k5 0
      have f51 := blk_frozen M8.out.k5 1
      have c50 : w8.cell? ⟨g5, 0, none⟩ = some (.int .u64 x1) := (blk_cell M8.out.k5 0).trans rfl
      have c51 : w8.cell? ⟨g5, 1, none⟩ = some (.int .u64 x0) := (blk_cell M8.out.k5 1).trans rfl
      have y5 : g5 < w8.heap.size := blk_lt M8.out.k5
      cases bb <;> cases ls
      · as_aux_lemma =>
        go_wp2_with fail
        have M9 := Go.Lib.hid ((M8.out.putR n35 n45 n75 n85 z5 (wrd 1 (val2 x1 x0 + 340282366920938463463374607431768211456 - val2 p q)) (wrd 0 (val2 x1 x0 + 340282366920938463463374607431768211456 - val2 p q))).alloc (.cells #[.int .u64 (wrd 1 (val2 x1 x0 + 340282366920938463463374607431768211456 - val2 p q) : Nat), .int .u64 (wrd 0 (val2 x1 x0 + 340282366920938463463374607431768211456 - val2 p q) : Nat)] 24))
        have D2 := div_in _ _ Dh.out hn0.out (val2_lt hlp.out hlq.out) He.out Hx.out Hbey.out Hls.out rfl
        clear M8 f50 f51 c50 c51 y5
        generalize (((w8.setCell ⟨g5, 0, none⟩ (.int .u64 ((wrd 1 (val2 x1 x0 + 340282366920938463463374607431768211456 - val2 p q) : Nat) : Int))).setCell ⟨g5, 1, none⟩ (.int .u64 ((wrd 0 (val2 x1 x0 + 340282366920938463463374607431768211456 - val2 p q) : Nat) : Int))).alloc (.cells #[.int .u64 ((wrd 1 (val2 x1 x0 + 340282366920938463463374607431768211456 - val2 p q) : Nat) : Int), .int .u64 ((wrd 0 (val2 x1 x0 + 340282366920938463463374607431768211456 - val2 p q) : Nat) : Int)] 24)) = w9 at M9 ⊢
        have HD2 := Go.Lib.hid D2
        clear D2
        have hq : k / 64 = 0 ∨ k / 64 = 1 ∨ k / 64 = 2 ∨ k / 64 = 3 := by omega
        rcases hq with hq | hq | hq | hq
        · as_aux_lemma =>
          obtain ⟨s, hks, hs⟩ : ∃ s, k = s ∧ s < 64 := ⟨k % 64, by omega, by omega⟩
          have hq' : (k : Int) / 64 = 0 := by omega
          have hs' : (k : Int) % 64 = (s : Int) := by omega
          have B := Go.Lib.hid ((quot_bit o3 o2 o1 o0 k s hs Hm3.out Hm2.out Hm1.out Hm0.out HD2.out.2).1 hks)
          have W := set_word o0 s hs Hm0.out
          clear hks hq
          have c8 : w9.cell? ⟨g8, 0, none⟩ = some (.int .u64 (o0 : Int)) := (blk_cell M9.out.k8 0).trans rfl
          have f8 := blk_frozen M9.out.k8 0
          have P9 := Go.Lib.hid ((M9.out.drew.putO n38 n48 n58 n78 z8 (o0 ||| 2 ^ s)).1)
          clear M9
          go_region
          clear W c8 f8 hq' hs'
          go_wp2
          go_roundw
          case rel => exact ⟨k, rfl, _, _, _, _, _, _, wrd_lt _ _, wrd_lt _ _, Hm3.out, Hm2.out, Hm1.out, B.out.1, P9.out, by rw [B.out.2]; exact HD2.out.1⟩
          case measure => first | (simp [intOf]; done) | (simp [intOf]; omega)
        · as_aux_lemma =>
          obtain ⟨s, hks, hs⟩ : ∃ s, k = 64 + s ∧ s < 64 := ⟨k % 64, by omega, by omega⟩
          have hq' : (k : Int) / 64 = 1 := by omega
          have hs' : (k : Int) % 64 = (s : Int) := by omega
          have B := Go.Lib.hid ((quot_bit o3 o2 o1 o0 k s hs Hm3.out Hm2.out Hm1.out Hm0.out HD2.out.2).2.1 hks)
          have W := set_word o1 s hs Hm1.out
          clear hks hq
          have c8 : w9.cell? ⟨g8, 1, none⟩ = some (.int .u64 (o1 : Int)) := (blk_cell M9.out.k8 1).trans rfl
          have f8 := blk_frozen M9.out.k8 1
          have P9 := Go.Lib.hid ((M9.out.drew.putO n38 n48 n58 n78 z8 (o1 ||| 2 ^ s)).2.1)
          clear M9
          go_region
          clear W c8 f8 hq' hs'
          go_wp2
          go_roundw
          case rel => exact ⟨k, rfl, _, _, _, _, _, _, wrd_lt _ _, wrd_lt _ _, Hm3.out, Hm2.out, B.out.1, Hm0.out, P9.out, by rw [B.out.2]; exact HD2.out.1⟩
          case measure => first | (simp [intOf]; done) | (simp [intOf]; omega)
        · as_aux_lemma =>
          obtain ⟨s, hks, hs⟩ : ∃ s, k = 128 + s ∧ s < 64 := ⟨k % 64, by omega, by omega⟩
          have hq' : (k : Int) / 64 = 2 := by omega
          have hs' : (k : Int) % 64 = (s : Int) := by omega
          have B := Go.Lib.hid ((quot_bit o3 o2 o1 o0 k s hs Hm3.out Hm2.out Hm1.out Hm0.out HD2.out.2).2.2.1 hks)
          have W := set_word o2 s hs Hm2.out
          clear hks hq
          have c8 : w9.cell? ⟨g8, 2, none⟩ = some (.int .u64 (o2 : Int)) := (blk_cell M9.out.k8 2).trans rfl
          have f8 := blk_frozen M9.out.k8 2
          have P9 := Go.Lib.hid ((M9.out.drew.putO n38 n48 n58 n78 z8 (o2 ||| 2 ^ s)).2.2.1)
          clear M9
          go_region
          clear W c8 f8 hq' hs'
          go_wp2
          go_roundw
          case rel => exact ⟨k, rfl, _, _, _, _, _, _, wrd_lt _ _, wrd_lt _ _, Hm3.out, B.out.1, Hm1.out, Hm0.out, P9.out, by rw [B.out.2]; exact HD2.out.1⟩
          case measure => first | (simp [intOf]; done) | (simp [intOf]; omega)
        · as_aux_lemma =>
          obtain ⟨s, hks, hs⟩ : ∃ s, k = 192 + s ∧ s < 64 := ⟨k % 64, by omega, by omega⟩
          have hq' : (k : Int) / 64 = 3 := by omega
          have hs' : (k : Int) % 64 = (s : Int) := by omega
          have B := Go.Lib.hid ((quot_bit o3 o2 o1 o0 k s hs Hm3.out Hm2.out Hm1.out Hm0.out HD2.out.2).2.2.2 hks)
          have W := set_word o3 s hs Hm3.out
          clear hks hq
          have c8 : w9.cell? ⟨g8, 3, none⟩ = some (.int .u64 (o3 : Int)) := (blk_cell M9.out.k8 3).trans rfl
          have f8 := blk_frozen M9.out.k8 3
          have P9 := Go.Lib.hid ((M9.out.drew.putO n38 n48 n58 n78 z8 (o3 ||| 2 ^ s)).2.2.2)
          clear M9
          go_region
          clear W c8 f8 hq' hs'
          go_wp2
          go_roundw
          case rel => exact ⟨k, rfl, _, _, _, _, _, _, wrd_lt _ _, wrd_lt _ _, B.out.1, Hm2.out, Hm1.out, Hm0.out, P9.out, by rw [B.out.2]; exact HD2.out.1⟩
          case measure => first | (simp [intOf]; done) | (simp [intOf]; omega)
      · as_aux_lemma =>
        have D2 := div_out Dh.out hn0.out He.out Hx.out Hbey.out Hls.out
        go_wp2
        go_roundw
        case rel => exact ⟨k, rfl, _, _, _, _, _, _, Hx1.out, Hx0.out, Hm3.out, Hm2.out, Hm1.out, Hm0.out, M8.out.alloc _, D2⟩
        case measure => first | (simp [intOf]; done) | (simp [intOf]; omega)
      · as_aux_lemma =>
        go_wp2_with fail
        have M9 := Go.Lib.hid ((M8.out.putR n35 n45 n75 n85 z5 (wrd 1 (val2 x1 x0 + 340282366920938463463374607431768211456 - val2 p q)) (wrd 0 (val2 x1 x0 + 340282366920938463463374607431768211456 - val2 p q))).alloc (.cells #[.int .u64 (wrd 1 (val2 x1 x0 + 340282366920938463463374607431768211456 - val2 p q) : Nat), .int .u64 (wrd 0 (val2 x1 x0 + 340282366920938463463374607431768211456 - val2 p q) : Nat)] 24))
        have D2 := div_in _ _ Dh.out hn0.out (val2_lt hlp.out hlq.out) He.out Hx.out Hbey.out Hls.out rfl
        clear M8 f50 f51 c50 c51 y5
        generalize (((w8.setCell ⟨g5, 0, none⟩ (.int .u64 ((wrd 1 (val2 x1 x0 + 340282366920938463463374607431768211456 - val2 p q) : Nat) : Int))).setCell ⟨g5, 1, none⟩ (.int .u64 ((wrd 0 (val2 x1 x0 + 340282366920938463463374607431768211456 - val2 p q) : Nat) : Int))).alloc (.cells #[.int .u64 ((wrd 1 (val2 x1 x0 + 340282366920938463463374607431768211456 - val2 p q) : Nat) : Int), .int .u64 ((wrd 0 (val2 x1 x0 + 340282366920938463463374607431768211456 - val2 p q) : Nat) : Int)] 24)) = w9 at M9 ⊢
        have HD2 := Go.Lib.hid D2
        clear D2
        have hq : k / 64 = 0 ∨ k / 64 = 1 ∨ k / 64 = 2 ∨ k / 64 = 3 := by omega
        rcases hq with hq | hq | hq | hq
        · as_aux_lemma =>
          obtain ⟨s, hks, hs⟩ : ∃ s, k = s ∧ s < 64 := ⟨k % 64, by omega, by omega⟩
          have hq' : (k : Int) / 64 = 0 := by omega
          have hs' : (k : Int) % 64 = (s : Int) := by omega
          have B := Go.Lib.hid ((quot_bit o3 o2 o1 o0 k s hs Hm3.out Hm2.out Hm1.out Hm0.out HD2.out.2).1 hks)
          have W := set_word o0 s hs Hm0.out
          clear hks hq
          have c8 : w9.cell? ⟨g8, 0, none⟩ = some (.int .u64 (o0 : Int)) := (blk_cell M9.out.k8 0).trans rfl
          have f8 := blk_frozen M9.out.k8 0
          have P9 := Go.Lib.hid ((M9.out.drew.putO n38 n48 n58 n78 z8 (o0 ||| 2 ^ s)).1)
          clear M9
          go_region
          clear W c8 f8 hq' hs'
          go_wp2
          go_roundw
          case rel => exact ⟨k, rfl, _, _, _, _, _, _, wrd_lt _ _, wrd_lt _ _, Hm3.out, Hm2.out, Hm1.out, B.out.1, P9.out, by rw [B.out.2]; exact HD2.out.1⟩
          case measure => first | (simp [intOf]; done) | (simp [intOf]; omega)
        · as_aux_lemma =>
          obtain ⟨s, hks, hs⟩ : ∃ s, k = 64 + s ∧ s < 64 := ⟨k % 64, by omega, by omega⟩
          have hq' : (k : Int) / 64 = 1 := by omega
          have hs' : (k : Int) % 64 = (s : Int) := by omega
          have B := Go.Lib.hid ((quot_bit o3 o2 o1 o0 k s hs Hm3.out Hm2.out Hm1.out Hm0.out HD2.out.2).2.1 hks)
          have W := set_word o1 s hs Hm1.out
          clear hks hq
          have c8 : w9.cell? ⟨g8, 1, none⟩ = some (.int .u64 (o1 : Int)) := (blk_cell M9.out.k8 1).trans rfl
          have f8 := blk_frozen M9.out.k8 1
          have P9 := Go.Lib.hid ((M9.out.drew.putO n38 n48 n58 n78 z8 (o1 ||| 2 ^ s)).2.1)
          clear M9
          go_region
          clear W c8 f8 hq' hs'
          go_wp2
          go_roundw
          case rel => exact ⟨k, rfl, _, _, _, _, _, _, wrd_lt _ _, wrd_lt _ _, Hm3.out, Hm2.out, B.out.1, Hm0.out, P9.out, by rw [B.out.2]; exact HD2.out.1⟩
          case measure => first | (simp [intOf]; done) | (simp [intOf]; omega)
        · as_aux_lemma =>
          obtain ⟨s, hks, hs⟩ : ∃ s, k = 128 + s ∧ s < 64 := ⟨k % 64, by omega, by omega⟩
          have hq' : (k : Int) / 64 = 2 := by omega
          have hs' : (k : Int) % 64 = (s : Int) := by omega
          have B := Go.Lib.hid ((quot_bit o3 o2 o1 o0 k s hs Hm3.out Hm2.out Hm1.out Hm0.out HD2.out.2).2.2.1 hks)
          have W := set_word o2 s hs Hm2.out
          clear hks hq
          have c8 : w9.cell? ⟨g8, 2, none⟩ = some (.int .u64 (o2 : Int)) := (blk_cell M9.out.k8 2).trans rfl
          have f8 := blk_frozen M9.out.k8 2
          have P9 := Go.Lib.hid ((M9.out.drew.putO n38 n48 n58 n78 z8 (o2 ||| 2 ^ s)).2.2.1)
          clear M9
          go_region
          clear W c8 f8 hq' hs'
          go_wp2
          go_roundw
          case rel => exact ⟨k, rfl, _, _, _, _, _, _, wrd_lt _ _, wrd_lt _ _, Hm3.out, B.out.1, Hm1.out, Hm0.out, P9.out, by rw [B.out.2]; exact HD2.out.1⟩
          case measure => first | (simp [intOf]; done) | (simp [intOf]; omega)
        · as_aux_lemma =>
          obtain ⟨s, hks, hs⟩ : ∃ s, k = 192 + s ∧ s < 64 := ⟨k % 64, by omega, by omega⟩
          have hq' : (k : Int) / 64 = 3 := by omega
          have hs' : (k : Int) % 64 = (s : Int) := by omega
          have B := Go.Lib.hid ((quot_bit o3 o2 o1 o0 k s hs Hm3.out Hm2.out Hm1.out Hm0.out HD2.out.2).2.2.2 hks)
          have W := set_word o3 s hs Hm3.out
          clear hks hq
          have c8 : w9.cell? ⟨g8, 3, none⟩ = some (.int .u64 (o3 : Int)) := (blk_cell M9.out.k8 3).trans rfl
          have f8 := blk_frozen M9.out.k8 3
          have P9 := Go.Lib.hid ((M9.out.drew.putO n38 n48 n58 n78 z8 (o3 ||| 2 ^ s)).2.2.2)
          clear M9
          go_region
          clear W c8 f8 hq' hs'
          go_wp2
          go_roundw
          case rel => exact ⟨k, rfl, _, _, _, _, _, _, wrd_lt _ _, wrd_lt _ _, B.out.1, Hm2.out, Hm1.out, Hm0.out, P9.out, by rw [B.out.2]; exact HD2.out.1⟩
          case measure => first | (simp [intOf]; done) | (simp [intOf]; omega)
      · as_aux_lemma =>
        go_wp2_with fail
        have M9 := Go.Lib.hid ((M8.out.putR n35 n45 n75 n85 z5 (wrd 1 (val2 x1 x0 + 340282366920938463463374607431768211456 - val2 p q)) (wrd 0 (val2 x1 x0 + 340282366920938463463374607431768211456 - val2 p q))).alloc (.cells #[.int .u64 (wrd 1 (val2 x1 x0 + 340282366920938463463374607431768211456 - val2 p q) : Nat), .int .u64 (wrd 0 (val2 x1 x0 + 340282366920938463463374607431768211456 - val2 p q) : Nat)] 24))
        have D2 := div_in _ _ Dh.out hn0.out (val2_lt hlp.out hlq.out) He.out Hx.out Hbey.out Hls.out rfl
        clear M8 f50 f51 c50 c51 y5
        generalize (((w8.setCell ⟨g5, 0, none⟩ (.int .u64 ((wrd 1 (val2 x1 x0 + 340282366920938463463374607431768211456 - val2 p q) : Nat) : Int))).setCell ⟨g5, 1, none⟩ (.int .u64 ((wrd 0 (val2 x1 x0 + 340282366920938463463374607431768211456 - val2 p q) : Nat) : Int))).alloc (.cells #[.int .u64 ((wrd 1 (val2 x1 x0 + 340282366920938463463374607431768211456 - val2 p q) : Nat) : Int), .int .u64 ((wrd 0 (val2 x1 x0 + 340282366920938463463374607431768211456 - val2 p q) : Nat) : Int)] 24)) = w9 at M9 ⊢
        have HD2 := Go.Lib.hid D2
        clear D2
        have hq : k / 64 = 0 ∨ k / 64 = 1 ∨ k / 64 = 2 ∨ k / 64 = 3 := by omega
        rcases hq with hq | hq | hq | hq
        · as_aux_lemma =>
          obtain ⟨s, hks, hs⟩ : ∃ s, k = s ∧ s < 64 := ⟨k % 64, by omega, by omega⟩
          have hq' : (k : Int) / 64 = 0 := by omega
          have hs' : (k : Int) % 64 = (s : Int) := by omega
          have B := Go.Lib.hid ((quot_bit o3 o2 o1 o0 k s hs Hm3.out Hm2.out Hm1.out Hm0.out HD2.out.2).1 hks)
          have W := set_word o0 s hs Hm0.out
          clear hks hq
          have c8 : w9.cell? ⟨g8, 0, none⟩ = some (.int .u64 (o0 : Int)) := (blk_cell M9.out.k8 0).trans rfl
          have f8 := blk_frozen M9.out.k8 0
          have P9 := Go.Lib.hid ((M9.out.drew.putO n38 n48 n58 n78 z8 (o0 ||| 2 ^ s)).1)
          clear M9
          go_region
          clear W c8 f8 hq' hs'
          go_wp2
          go_roundw
          case rel => exact ⟨k, rfl, _, _, _, _, _, _, wrd_lt _ _, wrd_lt _ _, Hm3.out, Hm2.out, Hm1.out, B.out.1, P9.out, by rw [B.out.2]; exact HD2.out.1⟩
          case measure => first | (simp [intOf]; done) | (simp [intOf]; omega)
        · as_aux_lemma =>
          obtain ⟨s, hks, hs⟩ : ∃ s, k = 64 + s ∧ s < 64 := ⟨k % 64, by omega, by omega⟩
          have hq' : (k : Int) / 64 = 1 := by omega
          have hs' : (k : Int) % 64 = (s : Int) := by omega
          have B := Go.Lib.hid ((quot_bit o3 o2 o1 o0 k s hs Hm3.out Hm2.out Hm1.out Hm0.out HD2.out.2).2.1 hks)
          have W := set_word o1 s hs Hm1.out
          clear hks hq
          have c8 : w9.cell? ⟨g8, 1, none⟩ = some (.int .u64 (o1 : Int)) := (blk_cell M9.out.k8 1).trans rfl
          have f8 := blk_frozen M9.out.k8 1
          have P9 := Go.Lib.hid ((M9.out.drew.putO n38 n48 n58 n78 z8 (o1 ||| 2 ^ s)).2.1)
          clear M9
          go_region
          clear W c8 f8 hq' hs'
          go_wp2
          go_roundw
          case rel => exact ⟨k, rfl, _, _, _, _, _, _, wrd_lt _ _, wrd_lt _ _, Hm3.out, Hm2.out, B.out.1, Hm0.out, P9.out, by rw [B.out.2]; exact HD2.out.1⟩
          case measure => first | (simp [intOf]; done) | (simp [intOf]; omega)
        · as_aux_lemma =>
          obtain ⟨s, hks, hs⟩ : ∃ s, k = 128 + s ∧ s < 64 := ⟨k % 64, by omega, by omega⟩
          have hq' : (k : Int) / 64 = 2 := by omega
          have hs' : (k : Int) % 64 = (s : Int) := by omega
          have B := Go.Lib.hid ((quot_bit o3 o2 o1 o0 k s hs Hm3.out Hm2.out Hm1.out Hm0.out HD2.out.2).2.2.1 hks)
          have W := set_word o2 s hs Hm2.out
          clear hks hq
          have c8 : w9.cell? ⟨g8, 2, none⟩ = some (.int .u64 (o2 : Int)) := (blk_cell M9.out.k8 2).trans rfl
          have f8 := blk_frozen M9.out.k8 2
          have P9 := Go.Lib.hid ((M9.out.drew.putO n38 n48 n58 n78 z8 (o2 ||| 2 ^ s)).2.2.1)
          clear M9
          go_region
          clear W c8 f8 hq' hs'
          go_wp2
          go_roundw
          case rel => exact ⟨k, rfl, _, _, _, _, _, _, wrd_lt _ _, wrd_lt _ _, Hm3.out, B.out.1, Hm1.out, Hm0.out, P9.out, by rw [B.out.2]; exact HD2.out.1⟩
          case measure => first | (simp [intOf]; done) | (simp [intOf]; omega)
        · as_aux_lemma =>
          obtain ⟨s, hks, hs⟩ : ∃ s, k = 192 + s ∧ s < 64 := ⟨k % 64, by omega, by omega⟩
          have hq' : (k : Int) / 64 = 3 := by omega
          have hs' : (k : Int) % 64 = (s : Int) := by omega
          have B := Go.Lib.hid ((quot_bit o3 o2 o1 o0 k s hs Hm3.out Hm2.out Hm1.out Hm0.out HD2.out.2).2.2.2 hks)
          have W := set_word o3 s hs Hm3.out
          clear hks hq
          have c8 : w9.cell? ⟨g8, 3, none⟩ = some (.int .u64 (o3 : Int)) := (blk_cell M9.out.k8 3).trans rfl
          have f8 := blk_frozen M9.out.k8 3
          have P9 := Go.Lib.hid ((M9.out.drew.putO n38 n48 n58 n78 z8 (o3 ||| 2 ^ s)).2.2.2)
          clear M9
          go_region
          clear W c8 f8 hq' hs'
          go_wp2
          go_roundw
          case rel => exact ⟨k, rfl, _, _, _, _, _, _, wrd_lt _ _, wrd_lt _ _, B.out.1, Hm2.out, Hm1.out, Hm0.out, P9.out, by rw [B.out.2]; exact HD2.out.1⟩
          case measure => first | (simp [intOf]; done) | (simp [intOf]; omega)

def limb_Div.f (a0_0 a0_1 a0_2 a0_3 a1_0 a1_1 : Int) : Option (Int × Int × Int × Int × Int × Int × Bool) :=
  if Wd a0_0 ∧ Wd a0_1 ∧ Wd a0_2 ∧ Wd a0_3 ∧ Wd a1_0 ∧ Wd a1_1 then
    (if n2 a1_0 a1_1 = 0 then some (0, 0, 0, 0, 0, 0, false) else some ((wrd 3 (n4 a0_0 a0_1 a0_2 a0_3 / n2 a1_0 a1_1) : Nat), (wrd 2 (n4 a0_0 a0_1 a0_2 a0_3 / n2 a1_0 a1_1) : Nat), (wrd 1 (n4 a0_0 a0_1 a0_2 a0_3 / n2 a1_0 a1_1) : Nat), (wrd 0 (n4 a0_0 a0_1 a0_2 a0_3 / n2 a1_0 a1_1) : Nat), (wrd 1 (n4 a0_0 a0_1 a0_2 a0_3 % n2 a1_0 a1_1) : Nat), (wrd 0 (n4 a0_0 a0_1 a0_2 a0_3 % n2 a1_0 a1_1) : Nat), true)) else none
theorem limb_Div.calls (a0_0 a0_1 a0_2 a0_3 a1_0 a1_1 : Int) (r1 r2 r3 r4 r5 r6 : Int) (r7 : Bool) (w : World) (h : limb_Div.f a0_0 a0_1 a0_2 a0_3 a1_0 a1_1 = some (r1, r2, r3, r4, r5, r6, r7)) :
    Calls Try.prog 12 #[.agg #[.int .u64 a0_0, .int .u64 a0_1, .int .u64 a0_2, .int .u64 a0_3], .agg #[.int .u64 a1_0, .int .u64 a1_1]] w fun e w' => e = .returned (.tuple #[.agg #[.int .u64 r1, .int .u64 r2, .int .u64 r3, .int .u64 r4], .agg #[.int .u64 r5, .int .u64 r6], .bool r7]) ∧ Below w.heap.size w w' := by
  unfold limb_Div.f at h
  split at h
  · rename_i hb
    obtain ⟨b1, b2, b3, b4, b5, b6⟩ := hb
    obtain ⟨a, rfl, la⟩ := b1.nat
    obtain ⟨b, rfl, lb⟩ := b2.nat
    obtain ⟨c, rfl, lc⟩ := b3.nat
    obtain ⟨d, rfl, ld⟩ := b4.nat
    obtain ⟨p, rfl, lp⟩ := b5.nat
    obtain ⟨q, rfl, lq⟩ := b6.nat
    have e2p : n2 (p : Int) (q : Int) = val2 p q := by simp [n2]
    by_cases hz : n2 (p : Int) (q : Int) = 0
    · rw [if_pos hz] at h
      rw [e2p] at hz
      simp only [Option.some.injEq, Prod.mk.injEq] at h
      obtain ⟨rfl, rfl, rfl, rfl, rfl, rfl, rfl⟩ := h
      have hp : p = 0 := by unfold val2 at hz; omega
      have hq : q = 0 := by unfold val2 at hz; omega
      subst hp hq
      exact div_zero _ _ _ _ w
    · rw [if_neg hz] at h
      rw [e2p] at hz
      simp only [n4, e2p, Int.toNat_natCast, Option.some.injEq, Prod.mk.injEq] at h
      obtain ⟨rfl, rfl, rfl, rfl, rfl, rfl, rfl⟩ := h
      exact div_any a b c d p q la lb lc ld lp lq hz w
  · exact absurd h (by simp)

end Go.Proofs.Ytlpdongckcaclaa.Limb
