/- MortonQuarters: the first two bits of a key tell in which quarter it is, each two further ones in which quarter of that, for every input. -/
import Derived.Test.YtlkehngobhmhbaaQx4
import Derived.Test.YtlkehngobhmhbaaKeys
namespace Go.Proofs.Ytlkehngobhmhbaa.Pure
open Go.RowKit Go.Proofs.Ytlkehngobhmhbaa.Q Go.Proofs.Ytlkehngobhmhbaa.Plain Go.Proofs.Ytlkehngobhmhbaa.Keys Go.Proofs.YtlkehngobhmhbaaW.PrintWords Go.Proofs.YtlkehngobhmhbaaW.PrintLast Go.Proofs.YtlkehngobhmhbaaW.PrintMore

theorem quarter (x y k : Nat) (hk : k < 32) :
    ky 32 x y / 2 ^ (62 - 2 * k) % 4 = x / 2 ^ (31 - k) % 2 + 2 * (y / 2 ^ (31 - k) % 2) := by
  have h := ky_div (k + 1) (31 - k) x y
  rw [show 31 - k + (k + 1) = 32 by omega, show (4 : Nat) ^ (31 - k) = 2 ^ (62 - 2 * k) by rw [show (4 : Nat) = 2 ^ 2 from rfl, ← Nat.pow_mul]; congr 1; omega] at h
  rw [h, ky_mod4 _ _ _ (by omega)]
theorem further (x y k : Nat) (hx : x < 4294967296) (hy : y < 4294967296) (hk : k < 32) :
    ky 32 (x / 2 ^ k) (y / 2 ^ k) = ky 32 x y / 2 ^ (2 * k) := by
  have h := ky_div (32 - k) k x y
  rw [show k + (32 - k) = 32 by omega, show (4 : Nat) ^ k = 2 ^ (2 * k) by rw [show (4 : Nat) = 2 ^ 2 from rfl, ← Nat.pow_mul]] at h
  rw [h]
  have e : 2 ^ (32 - k) * 2 ^ k = 4294967296 := by rw [← Nat.pow_add, show 32 - k + k = 32 by omega]
  have s := ky_small (32 - k) k (x / 2 ^ k) (y / 2 ^ k) (Nat.div_lt_of_lt_mul (by rw [Nat.mul_comm, e]; exact hx)) (Nat.div_lt_of_lt_mul (by rw [Nat.mul_comm, e]; exact hy))
  rw [show 32 - k + k = 32 by omega] at s
  exact s
theorem cast_shr (x k : Nat) : (x : Int) / 2 ^ k = ((x / 2 ^ k : Nat) : Int) := by rw [Int.natCast_ediv, Int.natCast_pow]; rfl
theorem MortonQuarters : perigeelaw6_MortonQuarters.Pure := by
  intro a0 a1 a2 w0 w1 w2
  obtain ⟨h0, h0'⟩ := bounds_u32 w0
  obtain ⟨h1, h1'⟩ := bounds_u32 w1
  obtain ⟨h2, h2'⟩ := bounds_u8 w2
  obtain ⟨x, rfl⟩ := Int.eq_ofNat_of_zero_le h0
  obtain ⟨y, rfl⟩ := Int.eq_ofNat_of_zero_le h1
  obtain ⟨k, hk, hk32⟩ : ∃ k : Nat, a2 % 32 = (k : Int) ∧ k < 32 := ⟨(a2 % 32).toNat, by omega, by omega⟩
  unfold perigeelaw6_MortonQuarters.f
  rw [hk, show (62 - 2 * (k : Int)).toNat = 62 - 2 * k by omega, show (31 - (k : Int)).toNat = 31 - k by omega, show (k : Int).toNat = k by omega, show (2 * (k : Int)).toNat = 2 * k by omega]
  have hx : x < 4294967296 := by omega
  have hy : y < 4294967296 := by omega
  have lx : ∀ j, x / 2 ^ j < 4294967296 := fun j => Nat.lt_of_le_of_lt (Nat.div_le_self _ _) hx
  have ly : ∀ j, y / 2 ^ j < 4294967296 := fun j => Nat.lt_of_le_of_lt (Nat.div_le_self _ _) hy
  simp only [cast_shr]
  rw [key_nat x y hx hy, key_nat _ _ (lx k) (ly k)]
  simp only [Option.bind_some, cast_shr, further x y k hx hy hk32, awake_true]
  have hK : ky 32 x y < 18446744073709551616 := ky_lt 32 x y
  have e1 := u64_and_nat (ky 32 x y / 2 ^ (62 - 2 * k)) 3 (Nat.lt_of_le_of_lt (Nat.div_le_self _ _) hK) (by decide)
  rw [nat_mask2] at e1
  have e2 := u32_and_nat (x / 2 ^ (31 - k)) 1 (lx _) (by decide)
  rw [nat_mask1] at e2
  have e3 := u32_and_nat (y / 2 ^ (31 - k)) 1 (ly _) (by decide)
  rw [nat_mask1] at e3
  have q := quarter x y k hk32
  rw [if_pos]
  · simp
  refine Eq.trans e1 ?_
  rw [q]
  have e2' : Go.bits .and .u32 ((x / 2 ^ (31 - k) : Nat) : Int) 1 = ((x / 2 ^ (31 - k) % 2 : Nat) : Int) := e2
  have e3' : Go.bits .and .u32 ((y / 2 ^ (31 - k) : Nat) : Int) 1 = ((y / 2 ^ (31 - k) % 2 : Nat) : Int) := e3
  rw [e2', e3']
  generalize hb : x / 2 ^ (31 - k) % 2 = b
  generalize hc : y / 2 ^ (31 - k) % 2 = c
  have m : ((c : Nat) : Int) * 2 % 4294967296 = ((c * 2 : Nat) : Int) := by omega
  have j := join2 b c 1 (by omega)
  rw [Nat.pow_one] at j
  rw [m, u32_or_nat b (c * 2) (by omega) (by omega), ← j, IntKind.wrap_u64]
  omega
end Go.Proofs.Ytlkehngobhmhbaa.Pure
