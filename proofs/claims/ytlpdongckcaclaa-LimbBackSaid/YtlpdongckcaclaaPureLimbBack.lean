/- The pure law of LimbBack. -/
import Derived.Test.YtlpdongckcaclaaRx
import Derived.Test.YtlpdongckcaclaaNums
namespace Go.Proofs.Ytlpdongckcaclaa.Pure
open Go.RowKit Go.Proofs.Ytlpdongckcaclaa.Plain Go.Proofs.Ytlpdongckcaclaa.Limb Go.Proofs.Ytlpdongckcaclaa.R Go.Proofs.Ytlpdongckcaclaa.Nums Go.Proofs.YtlpdongckcaclaaW.PrintWords Go.Proofs.YtlpdongckcaclaaW.PrintLast Go.Proofs.YtlpdongckcaclaaW.PrintMore
set_option linter.unusedVariables false
set_option linter.unusedSimpArgs false

theorem LimbBack : perigeelaw1_LimbBack.Pure := by
  intro a b c d wa wb wc wd
  obtain ⟨a, rfl, la⟩ := u64_nat wa
  obtain ⟨b, rfl, lb⟩ := u64_nat wb
  obtain ⟨c, rfl, lc⟩ := u64_nat wc
  obtain ⟨d, rfl, ld⟩ := u64_nat wd
  obtain ⟨k, hk⟩ : ∃ k, 300 ≤ k := ⟨300, Nat.le_refl _⟩
  refine ⟨k, ?_⟩
  unfold perigeelaw1_LimbBack.f
  obtain ⟨s1, s0, o, hs, ho, hf, l1, l0⟩ := addX a b c d la lb lc ld
  obtain ⟨s1', s0', o', hs', ho', hf', l1', l0'⟩ := addX c d a b lc ld la lb
  have B := val2_lt l1 l0
  have B' := val2_lt l1' l0'
  have A := val2_lt la lb
  have C := val2_lt lc ld
  have e : o = o' ∧ s1 = s1' ∧ s0 = s0' := by
    have z : o = o' := by
      cases o <;> cases o'
      · rfl
      · have := hf rfl; have := ho' rfl; omega
      · have := ho rfl; have := hf' rfl; omega
      · rfl
    refine ⟨z, val2_inj l0 l0' ?_⟩
    subst z
    cases o
    · have := hf rfl; have := hf' rfl; omega
    · have := ho rfl; have := ho' rfl; omega
  obtain ⟨rfl, rfl, rfl⟩ := e
  obtain ⟨t1, t0, u, ht, hu, hv, m1, m0⟩ := subX s1 s0 c d l1 l0 lc ld
  have D := val2_lt m1 m0
  have e : u = o ∧ t1 = a ∧ t0 = b := by
    have z : u = o := by
      cases o <;> cases u
      · rfl
      · have := hf rfl; have := hu rfl; omega
      · have := ho rfl; have := hv rfl; omega
      · rfl
    refine ⟨z, val2_inj m0 lb ?_⟩
    subst z
    cases u
    · have := hf rfl; have := hv rfl; omega
    · have := ho rfl; have := hu rfl; omega
  obtain ⟨rfl, rfl, rfl⟩ := e
  obtain ⟨v1, v0, p, hp, hq, hr, n1, n0⟩ := subX t1 t0 t1 t0 la lb la lb
  have E := val2_lt n1 n0
  have e : p = false ∧ v1 = 0 ∧ v0 = 0 := by
    have z : p = false := by
      cases p
      · rfl
      · have := hq rfl; omega
    refine ⟨z, val2_inj n0 (by decide) ?_⟩
    have := hr z
    show val2 v1 v0 = 0
    omega
  obtain ⟨rfl, rfl, rfl⟩ := e
  rw [hs, hs', hp, awakeE k hk]
  simp only [bs]
  rw [ht]
  have z : ((0 : Nat) : Int) = 0 := rfl
  simp only [bs, beq_self_eq_true, Bool.and_self, if_true, z, Bool.false_eq_true, if_false]

end Go.Proofs.Ytlpdongckcaclaa.Pure
