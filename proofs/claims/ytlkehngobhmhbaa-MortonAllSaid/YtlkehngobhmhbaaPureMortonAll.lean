/- MortonAll: the key of any two numbers, the cell and the key of any place, are what the document's functions tell, for every input. -/
import Derived.Test.YtlkehngobhmhbaaQx2
import Derived.Test.YtlkehngobhmhbaaKeys
namespace Go.Proofs.Ytlkehngobhmhbaa.Pure
open Go.RowKit Go.Proofs.Ytlkehngobhmhbaa.Q Go.Proofs.Ytlkehngobhmhbaa.Plain Go.Proofs.Ytlkehngobhmhbaa.Keys Go.Proofs.YtlkehngobhmhbaaW.PrintWords Go.Proofs.YtlkehngobhmhbaaW.PrintLast Go.Proofs.YtlkehngobhmhbaaW.PrintMore

theorem MortonAll : perigeelaw6_MortonAll.Pure := by
  intro a0 a1 b0 b1 b2 b3 w0 w1 _ _ _ _
  obtain ⟨h0, h0'⟩ := bounds_u32 w0
  obtain ⟨h1, h1'⟩ := bounds_u32 w1
  refine ⟨40, ?_⟩
  unfold perigeelaw6_MortonAll.f
  obtain ⟨r, hr, hr', r0, r1, _⟩ := row_some b0 b1
  obtain ⟨s, hs, hs', s0, s1, _⟩ := row_some b2 b3
  have hc : morton_Cell.f b0 b1 b2 b3 = some (r, s) := by unfold morton_Cell.f; rw [hr, hs]; rfl
  have hc' : perigeeref6_Cell.f b0 b1 b2 b3 = some (r, s) := by unfold perigeeref6_Cell.f; rw [hr', hs']; rfl
  have ho : morton_Of.f b0 b1 b2 b3 = morton_Key.f r s := by unfold morton_Of.f; rw [hc]; simp
  have ho' : perigeeref6_Of.f 40 b0 b1 b2 b3 = morton_Key.f r s := by unfold perigeeref6_Of.f; rw [hc']; simp [ref_key_int r s r0 r1 s0 s1]
  rw [ref_key_int a0 a1 h0 (by omega) h1 (by omega), key_int a0 a1 h0 (by omega) h1 (by omega), hc, hc', ho, ho', key_int r s r0 r1 s0 s1, awake_true]
  have hm : ∃ b, perigeeref1_MayVec.f b0 b1 b2 b3 = some b := by
    unfold perigeeref1_MayVec.f perigeeref1_May.f
    repeat' (first | split | exact ⟨_, rfl⟩ | simp only [Option.bind_some])
  obtain ⟨b, hb⟩ := hm
  rw [hb]
  cases b <;> simp
end Go.Proofs.Ytlkehngobhmhbaa.Pure
