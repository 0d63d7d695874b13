/- What the printed functions of the keys come to: the sums of powers of four of the plain laws. -/
import Derived.Test.YtlkehngobhmhbaaQx2
import Derived.Test.YtlkehngobhmhbaaPlain
import Derived.Laws.BitsAllLaws
namespace Go.Proofs.Ytlkehngobhmhbaa.Keys
open Go.RowKit Go.Proofs.Ytlkehngobhmhbaa.Plain Go.Proofs.Ytlkehngobhmhbaa.Q Go.Proofs.YtlkehngobhmhbaaW.PrintWords Go.Proofs.YtlkehngobhmhbaaW.PrintLast Go.Proofs.YtlkehngobhmhbaaW.PrintMore
theorem or_mod_and (a b m : Nat) (hm : m < 2 ^ 64) : (a ||| b % 2 ^ 64) &&& m = (a ||| b) &&& m := by
  apply Nat.eq_of_testBit_eq
  intro i
  simp only [Nat.testBit_and, Nat.testBit_or, Nat.testBit_mod_two_pow]
  by_cases h : i < 64
  · simp [h]
  · have : m.testBit i = false := Nat.testBit_lt_two_pow (Nat.lt_of_lt_of_le hm (Nat.pow_le_pow_right (by decide) (by omega)))
    simp [this]
theorem stL_nat (k m n : Nat) (hn : n < 18446744073709551616) (hm : m < 18446744073709551616) : stL ((2 ^ k : Nat) : Int) (m : Int) (n : Int) = ((stepL k m n : Nat) : Int) := by
  unfold stL stepL
  have e : IntKind.u64.wrap ((n : Int) * ((2 ^ k : Nat) : Int)) = ((n * 2 ^ k % 18446744073709551616 : Nat) : Int) := by
    rw [IntKind.wrap_u64]; omega
  have hl : n ||| n * 2 ^ k % 18446744073709551616 < 18446744073709551616 := Nat.or_lt_two_pow (n := 64) hn (Nat.mod_lt _ (by decide))
  rw [e, u64_or_nat _ _ hn (Nat.mod_lt _ (by decide)), u64_and_nat _ _ hl hm]
  exact congrArg _ (or_mod_and _ _ _ hm)
theorem and_lt (a m : Nat) (hm : m < 18446744073709551616) : a &&& m < 18446744073709551616 := Nat.lt_of_le_of_lt Nat.and_le_right hm
theorem spread_nat (n : Nat) (h : n < 4294967296) : morton_spread.f (n : Int) = some ((ky 32 n 0 : Nat) : Int) := by
  rw [← spr_eq n h]
  have e : IntKind.u64.wrap (n : Int) = (n : Int) := by rw [IntKind.wrap_u64]; omega
  have s1 := stL_nat 16 281470681808895 n (by omega) (by decide)
  have s2 := stL_nat 8 71777214294589695 (stepL 16 281470681808895 n) (and_lt _ _ (by decide)) (by decide)
  have s3 := stL_nat 4 1085102592571150095 (stepL 8 71777214294589695 (stepL 16 281470681808895 n)) (and_lt _ _ (by decide)) (by decide)
  have s4 := stL_nat 2 3689348814741910323 (stepL 4 1085102592571150095 (stepL 8 71777214294589695 (stepL 16 281470681808895 n))) (and_lt _ _ (by decide)) (by decide)
  have s5 := stL_nat 1 6148914691236517205 (stepL 2 3689348814741910323 (stepL 4 1085102592571150095 (stepL 8 71777214294589695 (stepL 16 281470681808895 n)))) (and_lt _ _ (by decide)) (by decide)
  unfold morton_spread.f
  rw [e]
  refine congrArg some ?_
  refine Eq.trans ?_ s5
  refine congrArg (stL 2 6148914691236517205) ?_
  refine Eq.trans ?_ s4
  refine congrArg (stL 4 3689348814741910323) ?_
  refine Eq.trans ?_ s3
  refine congrArg (stL 16 1085102592571150095) ?_
  refine Eq.trans ?_ s2
  refine congrArg (stL 256 71777214294589695) ?_
  exact s1
theorem ky_x_lt (n x : Nat) : 3 * ky n x 0 < 4 ^ n := by
  induction n generalizing x with
  | zero => simp [ky]
  | succ n ih =>
    have := ih (x / 2)
    simp only [ky, Nat.pow_succ, Nat.zero_div, Nat.zero_mod] at *
    omega
theorem key_nat (x y : Nat) (hx : x < 4294967296) (hy : y < 4294967296) : morton_Key.f (x : Int) (y : Int) = some ((ky 32 x y : Nat) : Int) := by
  unfold morton_Key.f
  rw [spread_nat x hx, spread_nat y hy]
  simp only [Option.bind_some]
  refine congrArg some ?_
  have h1 := ky_x_lt 32 x
  have h2 := ky_x_lt 32 y
  have e4 : (4 : Nat) ^ 32 = 18446744073709551616 := by decide
  rw [e4] at h1 h2
  have e : IntKind.u64.wrap (((ky 32 y 0 : Nat) : Int) * 2) = ((ky 32 y 0 * 2 : Nat) : Int) := by rw [IntKind.wrap_u64]; omega
  rw [e, u64_or_nat _ _ (by omega) (by omega), ky_or]
theorem key_int (a b : Int) (ha : 0 ≤ a) (ha2 : a < 4294967296) (hb : 0 ≤ b) (hb2 : b < 4294967296) : morton_Key.f a b = some ((ky 32 a.toNat b.toNat : Nat) : Int) := by
  obtain ⟨x, rfl⟩ := Int.eq_ofNat_of_zero_le ha
  obtain ⟨y, rfl⟩ := Int.eq_ofNat_of_zero_le hb
  exact key_nat x y (by omega) (by omega)
theorem awake_true : perigeelaw6_awake.f = some true := by decide +kernel
/-- one round of the document's key -/
theorem ref_step (i x y : Nat) (hi : i < 32) (hx : x < 4294967296) (hy : y < 4294967296) :
    Go.bits .or .u64 ((ky i x y : Nat) : Int) (Go.bits .or .u64 (shl .u64 (Go.bits .and .u64 (shr .u64 (IntKind.u64.wrap ((x : Nat) : Int)) (i : Int)) 1) (wrap64 (2 * (i : Int)))) (shl .u64 (Go.bits .and .u64 (shr .u64 (IntKind.u64.wrap ((y : Nat) : Int)) (i : Int)) 1) (wrap64 (wrap64 (2 * (i : Int)) + 1)))) = ((ky (i + 1) x y : Nat) : Int) := by
  have w1 : wrap64 (2 * (i : Int)) = ((2 * i : Nat) : Int) := by unfold wrap64; omega
  have w2 : wrap64 (((2 * i : Nat) : Int) + 1) = ((2 * i + 1 : Nat) : Int) := by unfold wrap64; omega
  have b1 : ∀ z : Nat, z < 4294967296 → Go.bits .and .u64 (shr .u64 (IntKind.u64.wrap ((z : Nat) : Int)) (i : Int)) 1 = ((z / 2 ^ i % 2 : Nat) : Int) := by
    intro z hz
    have e : IntKind.u64.wrap (z : Int) = (z : Int) := by rw [IntKind.wrap_u64]; omega
    have e2 : shr .u64 (IntKind.u64.wrap ((z : Nat) : Int)) (i : Int) = ((z / 2 ^ i : Nat) : Int) := by
      unfold shr
      rw [e, Int.toNat_natCast, show min i (IntKind.bits .u64) = i from Nat.min_eq_left (by show i ≤ 64; omega)]
      rw [Int.natCast_ediv, Int.natCast_pow]; rfl
    rw [e2]
    have hz2 : z / 2 ^ i < 18446744073709551616 := Nat.lt_of_le_of_lt (Nat.div_le_self _ _) (by omega)
    have h := u64_and_nat (z / 2 ^ i) 1 hz2 (by decide)
    rw [nat_mask1] at h
    exact h
  have s1 : ∀ (b c : Nat), b < 2 → c < 64 → shl .u64 ((b : Nat) : Int) ((c : Nat) : Int) = ((b * 2 ^ c : Nat) : Int) := by
    intro b c hb hc
    unfold shl
    rw [Int.toNat_natCast, show min c (IntKind.bits .u64) = c from Nat.min_eq_left (by show c ≤ 64; omega), IntKind.wrap_u64]
    have hp : b * 2 ^ c < 18446744073709551616 := by
      have : 2 ^ c ≤ 2 ^ 63 := Nat.pow_le_pow_right (by decide) (by omega)
      have : b * 2 ^ c ≤ 1 * 2 ^ c := Nat.mul_le_mul_right _ (by omega)
      omega
    have e : ((b : Nat) : Int) * 2 ^ c = ((b * 2 ^ c : Nat) : Int) := by rw [Int.natCast_mul, Int.natCast_pow]; rfl
    rw [e]; omega
  rw [w1, w2, b1 x hx, b1 y hy, s1 _ _ (Nat.mod_lt _ (by decide)) (by omega), s1 _ _ (Nat.mod_lt _ (by decide)) (by omega)]
  generalize hb : x / 2 ^ i % 2 = b
  generalize hc : y / 2 ^ i % 2 = c
  have hb2 : b < 2 := by omega
  have hc2 : c < 2 := by omega
  have p1 : 2 ^ (2 * i) ≤ 2 ^ 62 := Nat.pow_le_pow_right (by decide) (by omega)
  have q1 : b * 2 ^ (2 * i) ≤ 1 * 2 ^ (2 * i) := Nat.mul_le_mul_right _ (by omega)
  have q2 : c * 2 ^ (2 * i + 1) ≤ 1 * 2 ^ (2 * i + 1) := Nat.mul_le_mul_right _ (by omega)
  have q3 : 2 ^ (2 * i + 1) = 2 * 2 ^ (2 * i) := by rw [Nat.pow_succ, Nat.mul_comm]
  have hk : ky i x y < 2 ^ (2 * i) := by have := ky_lt i x y; rwa [show (4 : Nat) = 2 ^ 2 from rfl, ← Nat.pow_mul] at this
  have lt1 : b * 2 ^ (2 * i) < 18446744073709551616 := by omega
  have lt2 : c * 2 ^ (2 * i + 1) < 18446744073709551616 := by omega
  have lt3 : b * 2 ^ (2 * i) ||| c * 2 ^ (2 * i + 1) < 18446744073709551616 := Nat.or_lt_two_pow (n := 64) lt1 lt2
  rw [u64_or_nat _ _ lt1 lt2, u64_or_nat _ _ (by omega) lt3]
  refine congrArg _ ?_
  have e1 : c * 2 ^ (2 * i + 1) = (c * 2 ^ 1) * 2 ^ (2 * i) := by rw [q3]; simp only [Nat.pow_one]; rw [Nat.mul_assoc]
  have e2 := orLin_shl (2 * i) b (c * 2 ^ 1)
  simp only at e2
  have e3 := join2 b c 1 (by omega)
  have e4 := join2 (ky i x y) (b + 2 ^ 1 * c) (2 * i) hk
  rw [e1, ← e2, ← e3, ← e4, ky_succ, hb, hc, show (4 : Nat) ^ i = 2 ^ (2 * i) by rw [show (4 : Nat) = 2 ^ 2 from rfl, ← Nat.pow_mul]]
theorem ref_loop (x y : Nat) (hx : x < 4294967296) (hy : y < 4294967296) (d : Nat) : ∀ (i k : Nat), i + d = 32 → d < k → perigeeref6_Key.l0 k (x : Int) (y : Int) ((ky i x y : Nat) : Int) (i : Int) = some ((ky 32 x y : Nat) : Int) := by
  induction d with
  | zero =>
    intro i k hi hk
    obtain ⟨k, rfl⟩ : ∃ m, k = m + 1 := ⟨k - 1, by omega⟩
    simp only [perigeeref6_Key.l0]
    rw [if_neg (by omega)]
    obtain rfl : i = 32 := by omega
    rfl
  | succ d ih =>
    intro i k hi hk
    obtain ⟨k, rfl⟩ : ∃ m, k = m + 1 := ⟨k - 1, by omega⟩
    simp only [perigeeref6_Key.l0]
    rw [if_pos (by omega), if_pos (by omega), if_pos (by unfold wrap64; omega), if_pos (by unfold wrap64; omega), ref_step i x y (by omega) hx hy]
    rw [show wrap64 ((i : Int) + 1) = ((i + 1 : Nat) : Int) by unfold wrap64; omega]
    exact ih (i + 1) k (by omega) (by omega)
theorem ref_key (x y : Nat) (hx : x < 4294967296) (hy : y < 4294967296) : perigeeref6_Key.f 40 (x : Int) (y : Int) = some ((ky 32 x y : Nat) : Int) := by
  have h := ref_loop x y hx hy 32 0 40 (by omega) (by omega)
  exact h
theorem ref_key_int (a b : Int) (ha : 0 ≤ a) (ha2 : a < 4294967296) (hb : 0 ≤ b) (hb2 : b < 4294967296) : perigeeref6_Key.f 40 a b = morton_Key.f a b := by
  obtain ⟨x, rfl⟩ := Int.eq_ofNat_of_zero_le ha
  obtain ⟨y, rfl⟩ := Int.eq_ofNat_of_zero_le hb
  rw [key_nat x y (by omega) (by omega), ref_key x y (by omega) (by omega)]
theorem row_some (a b : Int) : ∃ r, morton_row.f a b = some r ∧ perigeeref6_part.f a b = some r ∧ 0 ≤ r ∧ r < 4294967296 ∧ r = max (-2147483648) (min a 2147483647) + 2147483648 := by
  refine ⟨_, rfl, rfl, ?_, ?_, ?_⟩ <;> (unfold mx mn; omega)
end Go.Proofs.Ytlkehngobhmhbaa.Keys
