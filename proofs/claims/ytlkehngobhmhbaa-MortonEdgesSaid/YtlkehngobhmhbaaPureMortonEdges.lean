/- MortonEdges: what is beyond the cells is in the last one on its side, for every place. -/
import Derived.Test.YtlkehngobhmhbaaQx3
import Derived.Test.YtlkehngobhmhbaaKeys
namespace Go.Proofs.Ytlkehngobhmhbaa.Pure
open Go.RowKit Go.Proofs.Ytlkehngobhmhbaa.Q Go.Proofs.Ytlkehngobhmhbaa.Plain Go.Proofs.Ytlkehngobhmhbaa.Keys Go.Proofs.YtlkehngobhmhbaaW.PrintWords Go.Proofs.YtlkehngobhmhbaaW.PrintLast Go.Proofs.YtlkehngobhmhbaaW.PrintMore

theorem MortonEdges : perigeelaw6_MortonEdges.Pure := by
  intro b0 b1 b2 b3 _ _ _ _
  unfold perigeelaw6_MortonEdges.f
  obtain ⟨r, hr, _, r0, r1, re⟩ := row_some b0 b1
  obtain ⟨s, hs, _, s0, s1, se⟩ := row_some b2 b3
  have hc : morton_Cell.f b0 b1 b2 b3 = some (r, s) := by unfold morton_Cell.f; rw [hr, hs]; rfl
  have hm : ∃ b, perigeeref1_MayVec.f b0 b1 b2 b3 = some b := by
    unfold perigeeref1_MayVec.f perigeeref1_May.f
    repeat' (first | split | exact ⟨_, rfl⟩ | simp only [Option.bind_some])
  obtain ⟨b, hb⟩ := hm
  rw [hb, hc, awake_true]
  simp only [Option.bind_some]
  repeat' split
  all_goals first | rfl | omega
end Go.Proofs.Ytlkehngobhmhbaa.Pure
