/- The pure law of LimbWords. -/
import Derived.Test.YtlpdongckcaclaaRx
import Derived.Test.YtlpdongckcaclaaNums
namespace Go.Proofs.Ytlpdongckcaclaa.Pure
open Go.RowKit Go.Proofs.Ytlpdongckcaclaa.Plain Go.Proofs.Ytlpdongckcaclaa.Limb Go.Proofs.Ytlpdongckcaclaa.R Go.Proofs.Ytlpdongckcaclaa.Nums Go.Proofs.YtlpdongckcaclaaW.PrintWords Go.Proofs.YtlpdongckcaclaaW.PrintLast Go.Proofs.YtlpdongckcaclaaW.PrintMore
set_option linter.unusedVariables false
set_option linter.unusedSimpArgs false

theorem LimbWords : perigeelaw1_LimbWords.Pure := by
  intro a b n wa wb wn
  obtain ⟨a1, a2⟩ := bounds_u32 wa
  obtain ⟨b1, b2⟩ := bounds_u32 wb
  obtain ⟨n, rfl, ln⟩ := u64_nat wn
  obtain ⟨a, rfl⟩ : ∃ m : Nat, a = (m : Int) := ⟨a.toNat, by omega⟩
  obtain ⟨b, rfl⟩ : ∃ m : Nat, b = (m : Int) := ⟨b.toNat, by omega⟩
  obtain ⟨k, hk⟩ : ∃ k, 300 ≤ k := ⟨300, Nat.le_refl _⟩
  refine ⟨k, ?_⟩
  unfold perigeelaw1_LimbWords.f
  have la : a < 18446744073709551616 := by omega
  have lb : b < 18446744073709551616 := by omega
  have v0 : ∀ x, val2 0 x = x := fun x => by unfold val2; omega
  obtain ⟨s1, s0, o, hs, ho, hf, l1, l0⟩ := addX 0 a 0 b (by decide) la (by decide) lb
  rw [v0, v0] at ho hf
  have hs' : limb_Add.f 0 (a : Int) 0 (b : Int) = _ := hs
  have S := val2_lt l1 l0
  have e : o = false := by
    cases o
    · rfl
    · have := ho rfl; omega
  subst e
  have hS := hf rfl
  obtain ⟨e1, e0⟩ : s1 = 0 ∧ s0 = a + b := val2_inj l0 (by omega) (by rw [v0]; exact hS)
  rw [e1, e0] at hs'
  rw [hs', awakeE k hk]
  simp only [bs]
  by_cases hz : b = 0
  · subst hz
    have hd : limb_Div.f 0 0 0 (n : Int) 0 ((0 : Nat) : Int) = _ := divE0 0 0 0 n (by decide) (by decide) (by decide) ln
    have z : ((0 : Nat) : Int) = 0 := rfl
    rw [hd, z]
    simp only [bs, if_true, Bool.false_eq_true, if_false, Nat.add_zero]
  · obtain ⟨q3, q2, q1, q0, r1, r0, hd, hq, hr, k3, k2, k1, k0, j1, j0⟩ := divX 0 0 0 n 0 b (by decide) (by decide) (by decide) ln (by decide) lb (by rw [v0]; exact hz)
    have hd' : limb_Div.f 0 0 0 (n : Int) 0 (b : Int) = _ := hd
    have e4 : val4 0 0 0 n = n := by unfold val4; omega
    rw [e4, v0] at hq hr
    have hQ : n / b ≤ n := Nat.div_le_self _ _
    have hR : n % b < b := Nat.mod_lt _ (by omega)
    generalize hQQ : n / b = Q at *
    generalize hRR : n % b = Z at *
    obtain ⟨rfl, rfl, rfl, rfl⟩ : q3 = 0 ∧ q2 = 0 ∧ q1 = 0 ∧ q0 = Q := by unfold val4 at hq; omega
    obtain ⟨rfl, rfl⟩ : r1 = 0 ∧ r0 = Z := by unfold val2 at hr; omega
    obtain ⟨m3, m2, m1, m0, hm, hv, g3, g2, g1, g0⟩ := mulX 0 a 0 b (by decide) la (by decide) lb
    have hm' : limb_Mul.f 0 (a : Int) 0 (b : Int) = _ := hm
    rw [v0, v0] at hv
    have hab : a * b < 18446744073709551616 := by
      have := Nat.mul_lt_mul'' (show a < 4294967296 by omega) (show b < 4294967296 by omega)
      simpa only [Nat.reduceMul] using this
    have ei : (a : Int) * b = ((a * b : Nat) : Int) := (Int.natCast_mul a b).symm
    have eq : Int.tdiv (n : Int) (b : Int) = ((n / b : Nat) : Int) := rfl
    have er : Int.tmod (n : Int) (b : Int) = ((n % b : Nat) : Int) := rfl
    rw [ei, eq, er, hQQ, hRR]
    generalize hAB : a * b = AB at *
    obtain ⟨rfl, rfl, rfl, rfl⟩ : m3 = 0 ∧ m2 = 0 ∧ m1 = 0 ∧ m0 = AB := by unfold val4 at hv; omega
    have w1 : IntKind.u64.wrap ((m0 : Nat) : Int) = (m0 : Int) := by rw [IntKind.wrap_u64]; omega
    have w2 : IntKind.u64.wrap ((q0 : Nat) : Int) = (q0 : Int) := by rw [IntKind.wrap_u64]; omega
    have hb : ¬ (b : Int) = 0 := by omega
    rw [hd', hm', w1, w2]
    simp only [bs]
    rw [if_neg hb]
    have z : ((0 : Nat) : Int) = 0 := rfl
    have y : ((a + b : Nat) : Int) = a + b := Int.natCast_add a b
    simp only [bs, beq_self_eq_true, Bool.and_self, if_true, z, Bool.false_eq_true, if_false, y]

end Go.Proofs.Ytlpdongckcaclaa.Pure
