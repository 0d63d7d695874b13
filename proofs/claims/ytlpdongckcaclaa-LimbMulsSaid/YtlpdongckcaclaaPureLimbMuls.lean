/- The pure law of LimbMuls. -/
import Derived.Test.YtlpdongckcaclaaMx
import Derived.Test.YtlpdongckcaclaaNumsM
namespace Go.Proofs.Ytlpdongckcaclaa.Pure
open Go.RowKit Go.Proofs.Ytlpdongckcaclaa.Plain Go.Proofs.Ytlpdongckcaclaa.Limb Go.Proofs.Ytlpdongckcaclaa.M Go.Proofs.Ytlpdongckcaclaa.Nums Go.Proofs.YtlpdongckcaclaaW.PrintWords Go.Proofs.YtlpdongckcaclaaW.PrintLast Go.Proofs.YtlpdongckcaclaaW.PrintMore
set_option linter.unusedVariables false
set_option linter.unusedSimpArgs false

theorem LimbMuls : perigeelaw1_LimbMuls.Pure := by
  intro a b p q c3 c2 c1 c0 wa wb wp wq w3 w2 w1 w0
  obtain ⟨a, rfl, la⟩ := u64_nat wa
  obtain ⟨b, rfl, lb⟩ := u64_nat wb
  obtain ⟨p, rfl, lp⟩ := u64_nat wp
  obtain ⟨q, rfl, lq⟩ := u64_nat wq
  obtain ⟨c3, rfl, l3⟩ := u64_nat w3
  obtain ⟨c2, rfl, l2⟩ := u64_nat w2
  obtain ⟨c1, rfl, l1⟩ := u64_nat w1
  obtain ⟨c0, rfl, l0⟩ := u64_nat w0
  obtain ⟨k, hk⟩ : ∃ k, 300 ≤ k := ⟨300, Nat.le_refl _⟩
  refine ⟨k, ?_⟩
  have hw := awakeE k hk
  unfold perigeelaw1_LimbMuls.f
  rw [divRef c3 c2 c1 c0 p q l3 l2 l1 l0 lp lq k hk, mulRef a b p q la lb lp lq]
  obtain ⟨m3, m2, m1, m0, hm, _⟩ := mulX a b p q la lb lp lq
  have hd : ∃ x : Int × Int × Int × Int × Int × Int × Bool, limb_Div.f (c3 : Int) (c2 : Int) (c1 : Int) (c0 : Int) (p : Int) (q : Int) = some x := by
    by_cases hz : p = 0 ∧ q = 0
    · obtain ⟨rfl, rfl⟩ := hz
      exact ⟨_, divE0 c3 c2 c1 c0 l3 l2 l1 l0⟩
    · exact ⟨_, divE c3 c2 c1 c0 p q l3 l2 l1 l0 lp lq (by unfold val2; omega)⟩
  obtain ⟨⟨q3, q2, q1, q0, r1, r0, ok⟩, hd⟩ := hd
  rw [hd, hm, hw]
  simp only [bs, beq_self_eq_true, Bool.and_self, if_true]

end Go.Proofs.Ytlpdongckcaclaa.Pure
