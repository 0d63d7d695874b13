/- The pure law of LimbAdds. -/
import Derived.Test.YtlpdongckcaclaaRx
import Derived.Test.YtlpdongckcaclaaNums
namespace Go.Proofs.Ytlpdongckcaclaa.Pure
open Go.RowKit Go.Proofs.Ytlpdongckcaclaa.Plain Go.Proofs.Ytlpdongckcaclaa.Limb Go.Proofs.Ytlpdongckcaclaa.R Go.Proofs.Ytlpdongckcaclaa.Nums Go.Proofs.YtlpdongckcaclaaW.PrintWords Go.Proofs.YtlpdongckcaclaaW.PrintLast Go.Proofs.YtlpdongckcaclaaW.PrintMore
set_option linter.unusedVariables false
set_option linter.unusedSimpArgs false

theorem LimbAdds : perigeelaw1_LimbAdds.Pure := by
  intro a b c d wa wb wc wd
  obtain ⟨a, rfl, la⟩ := u64_nat wa
  obtain ⟨b, rfl, lb⟩ := u64_nat wb
  obtain ⟨c, rfl, lc⟩ := u64_nat wc
  obtain ⟨d, rfl, ld⟩ := u64_nat wd
  refine ⟨300, ?_⟩
  unfold perigeelaw1_LimbAdds.f
  rw [addRef, subRef a b c d la lb lc ld]
  obtain ⟨s1, s0, o, hs, _⟩ := addX a b c d la lb lc ld
  obtain ⟨t1, t0, u, ht, _⟩ := subX a b c d la lb lc ld
  rw [hs, ht, awakeE 300 (Nat.le_refl _)]
  simp only [Option.bind_some, beq_self_eq_true, Bool.and_self, if_true]

end Go.Proofs.Ytlpdongckcaclaa.Pure
