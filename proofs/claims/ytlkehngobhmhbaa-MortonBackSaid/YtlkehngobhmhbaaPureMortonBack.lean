/- MortonBack: splitting tells what a key was made of, and the key of what was split is the key; one bit is one bit, for every input. -/
import Derived.Test.YtlkehngobhmhbaaQx6
import Derived.Test.YtlkehngobhmhbaaKeys
namespace Go.Proofs.Ytlkehngobhmhbaa.Pure
open Go.RowKit Go.Proofs.Ytlkehngobhmhbaa.Q Go.Proofs.Ytlkehngobhmhbaa.Plain Go.Proofs.Ytlkehngobhmhbaa.Keys Go.Proofs.YtlkehngobhmhbaaW.PrintWords Go.Proofs.YtlkehngobhmhbaaW.PrintLast Go.Proofs.YtlkehngobhmhbaaW.PrintMore

theorem small32 (p : Nat) (h : p < 4294967296) : (p : Int) % 4294967296 = p := by omega
theorem small64 (p : Nat) (h : p < 18446744073709551616) : (p : Int) % 18446744073709551616 = p := by omega
theorem small64' (p : Nat) (h : 2 * p < 18446744073709551616) : 2 * (p : Int) % 18446744073709551616 = ((2 * p : Nat) : Int) := by omega
theorem stR_nat (k m n : Nat) (hn : n < 18446744073709551616) (hm : m < 18446744073709551616) : stR ((2 ^ k : Nat) : Int) (m : Int) (n : Int) = ((stepR k m n : Nat) : Int) := by
  unfold stR stepR
  have e : (n : Int) / ((2 ^ k : Nat) : Int) = ((n / 2 ^ k : Nat) : Int) := (Int.natCast_ediv _ _).symm
  have hd : n / 2 ^ k < 18446744073709551616 := Nat.lt_of_le_of_lt (Nat.div_le_self _ _) hn
  rw [e, u64_or_nat _ _ hn hd, u64_and_nat _ _ (Nat.or_lt_two_pow (n := 64) hn hd) hm]
theorem gather_nat (n : Nat) (h : n < 18446744073709551616) : morton_gather.f (n : Int) = some ((ga 32 n : Nat) : Int) := by
  rw [← gat_eq n h]
  have s0 := u64_and_nat n 6148914691236517205 h (by decide)
  have s1 := stR_nat 1 3689348814741910323 (n &&& 0x5555555555555555) (and_lt _ _ (by decide)) (by decide)
  have s2 := stR_nat 2 1085102592571150095 (stepR 1 0x3333333333333333 (n &&& 0x5555555555555555)) (and_lt _ _ (by decide)) (by decide)
  have s3 := stR_nat 4 71777214294589695 (stepR 2 0x0f0f0f0f0f0f0f0f (stepR 1 0x3333333333333333 (n &&& 0x5555555555555555))) (and_lt _ _ (by decide)) (by decide)
  have s4 := stR_nat 8 281470681808895 (stepR 4 0x00ff00ff00ff00ff (stepR 2 0x0f0f0f0f0f0f0f0f (stepR 1 0x3333333333333333 (n &&& 0x5555555555555555)))) (and_lt _ _ (by decide)) (by decide)
  have s5 := stR_nat 16 4294967295 (stepR 8 0x0000ffff0000ffff (stepR 4 0x00ff00ff00ff00ff (stepR 2 0x0f0f0f0f0f0f0f0f (stepR 1 0x3333333333333333 (n &&& 0x5555555555555555))))) (and_lt _ _ (by decide)) (by decide)
  unfold morton_gather.f
  refine congrArg some ?_
  have e : stR 65536 4294967295 (stR 256 281470681808895 (stR 16 71777214294589695 (stR 4 1085102592571150095 (stR 2 3689348814741910323 (Go.bits .and .u64 (n : Int) 6148914691236517205))))) = ((gat n : Nat) : Int) := by
    refine Eq.trans ?_ s5
    refine congrArg (stR 65536 4294967295) ?_
    refine Eq.trans ?_ s4
    refine congrArg (stR 256 281470681808895) ?_
    refine Eq.trans ?_ s3
    refine congrArg (stR 16 71777214294589695) ?_
    refine Eq.trans ?_ s2
    refine congrArg (stR 4 1085102592571150095) ?_
    refine Eq.trans ?_ s1
    exact congrArg (stR 2 3689348814741910323) s0
  have hl : gat n < 4294967296 := Nat.lt_of_le_of_lt Nat.and_le_right (by decide)
  rw [e, IntKind.wrap_u32]
  omega
theorem ga_lt (n : Nat) : ∀ x, ga n x < 2 ^ n := by
  induction n with
  | zero => intro x; simp [ga]
  | succ n ih => intro x; have := ih (x / 4); simp only [ga, Nat.pow_succ]; omega
theorem split_nat (n : Nat) (h : n < 18446744073709551616) : morton_Split.f (n : Int) = some (((ga 32 n : Nat) : Int), ((ga 32 (n / 2) : Nat) : Int)) := by
  unfold morton_Split.f
  have e : (n : Int) / 2 = ((n / 2 : Nat) : Int) := by omega
  rw [e, gather_nat n h, gather_nat (n / 2) (by omega)]
  rfl
theorem MortonBack : perigeelaw6_MortonBack.Pure := by
  intro a0 a1 a2 a3 w0 w1 w2 w3
  obtain ⟨h0, h0'⟩ := bounds_u32 w0
  obtain ⟨h1, h1'⟩ := bounds_u32 w1
  obtain ⟨h2, h2'⟩ := bounds_u64 w2
  obtain ⟨h3, h3'⟩ := bounds_u8 w3
  obtain ⟨x, rfl⟩ := Int.eq_ofNat_of_zero_le h0
  obtain ⟨y, rfl⟩ := Int.eq_ofNat_of_zero_le h1
  obtain ⟨n, rfl⟩ := Int.eq_ofNat_of_zero_le h2
  obtain ⟨k, hk, hk32⟩ : ∃ k : Nat, a3 % 32 = (k : Int) ∧ k < 32 := ⟨(a3 % 32).toNat, by omega, by omega⟩
  have hx : x < 4294967296 := by omega
  have hy : y < 4294967296 := by omega
  have hn : n < 18446744073709551616 := by omega
  have hK : ky 32 x y < 18446744073709551616 := ky_lt 32 x y
  have g := ga_ky 32 x y hx hy
  have g2 := ky_ga 32 n hn
  have l1 : ga 32 n < 4294967296 := ga_lt 32 n
  have l2 : ga 32 (n / 2) < 4294967296 := ga_lt 32 (n / 2)
  have p1 : ((2 : Int) ^ k) % 4294967296 = ((2 ^ k : Nat) : Int) := by
    have : 2 ^ k ≤ 2 ^ 31 := Nat.pow_le_pow_right (by decide) (by omega)
    have e : (2 : Int) ^ k = ((2 ^ k : Nat) : Int) := by rw [Int.natCast_pow]; rfl
    rw [e]; exact small32 _ (by omega)
  have q : 2 ^ (2 * k) ≤ 2 ^ 62 := Nat.pow_le_pow_right (by decide) (by omega)
  have e2k : (2 : Int) ^ (2 * k) = ((2 ^ (2 * k) : Nat) : Int) := by rw [Int.natCast_pow]; rfl
  have p2 : IntKind.u64.wrap ((2 : Int) ^ (2 * k)) = ((2 ^ (2 * k) : Nat) : Int) := by rw [IntKind.wrap_u64, e2k]; exact small64 _ (by omega)
  have p3 : IntKind.u64.wrap (2 * (2 : Int) ^ (2 * k)) = ((2 * 2 ^ (2 * k) : Nat) : Int) := by rw [IntKind.wrap_u64, e2k]; exact small64' _ (by omega)
  have pk : 2 ^ k < 4294967296 := by
    have : 2 ^ k ≤ 2 ^ 31 := Nat.pow_le_pow_right (by decide) (by omega)
    omega
  have kx := key_nat (2 ^ k) 0 pk (by decide)
  have kz := key_nat 0 (2 ^ k) (by decide) pk
  rw [ky_pow_x k hk32] at kx
  rw [ky_pow_y k hk32] at kz
  have m1 := key_nat x 0 hx (by decide)
  have m2 := key_nat 0 y (by decide) hy
  have l3 : ky 32 x 0 < 18446744073709551616 := ky_lt 32 x 0
  have l4 : ky 32 0 y < 18446744073709551616 := ky_lt 32 0 y
  have o := u64_or_nat (ky 32 x 0) (ky 32 0 y) l3 l4
  have o2 : ky 32 x 0 ||| ky 32 0 y = ky 32 x y := by
    have z := ky_or 32 0 y
    have z0 : ky 32 0 0 = 0 := by decide
    rw [z0, Nat.zero_or] at z
    rw [← z, ky_or]
  rw [o2] at o
  unfold perigeelaw6_MortonBack.f
  rw [hk, show (k : Int).toNat = k by omega, show (2 * (k : Int)).toNat = 2 * k by omega, p1, p2, p3, key_nat x y hx hy]
  simp only [Option.bind_some]
  rw [split_nat _ hK, split_nat n hn]
  simp only [Option.bind_some]
  rw [g.1, g.2, if_pos rfl, if_pos rfl, key_nat _ _ l1 l2, g2]
  simp only [Option.bind_some, if_true]
  have kx' : morton_Key.f ((2 ^ k : Nat) : Int) 0 = some ((2 ^ (2 * k) : Nat) : Int) := kx
  have kz' : morton_Key.f 0 ((2 ^ k : Nat) : Int) = some ((2 * 2 ^ (2 * k) : Nat) : Int) := kz
  have m1' : morton_Key.f (x : Int) 0 = some ((ky 32 x 0 : Nat) : Int) := m1
  have m2' : morton_Key.f 0 (y : Int) = some ((ky 32 0 y : Nat) : Int) := m2
  rw [kx', kz', m1', m2', awake_true]
  simp only [Option.bind_some]
  rw [o]
  simp
end Go.Proofs.Ytlkehngobhmhbaa.Pure
