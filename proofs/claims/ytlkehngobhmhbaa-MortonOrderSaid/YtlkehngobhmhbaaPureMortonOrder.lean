/- MortonOrder: of two numbers on one line the further one has the greater key, and whole places are their own cells, for every input. -/
import Derived.Test.YtlkehngobhmhbaaQx3
import Derived.Test.YtlkehngobhmhbaaKeys
namespace Go.Proofs.Ytlkehngobhmhbaa.Pure
open Go.RowKit Go.Proofs.Ytlkehngobhmhbaa.Q Go.Proofs.Ytlkehngobhmhbaa.Plain Go.Proofs.Ytlkehngobhmhbaa.Keys Go.Proofs.YtlkehngobhmhbaaW.PrintWords Go.Proofs.YtlkehngobhmhbaaW.PrintLast Go.Proofs.YtlkehngobhmhbaaW.PrintMore

theorem lt_iff (x y z : Int) (hx : 0 ≤ x) (hx' : x ≤ 4294967295) (hy : 0 ≤ y) (hy' : y ≤ 4294967295) :
    ((decide (((ky 32 x.toNat z.toNat : Nat) : Int) < ((ky 32 y.toNat z.toNat : Nat) : Int))) == (decide (x < y))) = true ∧ ((decide (((ky 32 z.toNat x.toNat : Nat) : Int) < ((ky 32 z.toNat y.toNat : Nat) : Int))) == (decide (x < y))) = true := by
  obtain ⟨h1, h2, _, _⟩ := ky_inj_lt 32 x.toNat y.toNat z.toNat (by omega) (by omega)
  have e1 : (((ky 32 x.toNat z.toNat : Nat) : Int) < ((ky 32 y.toNat z.toNat : Nat) : Int)) ↔ x < y := by rw [Int.ofNat_lt, h1]; omega
  have e2 : (((ky 32 z.toNat x.toNat : Nat) : Int) < ((ky 32 z.toNat y.toNat : Nat) : Int)) ↔ x < y := by rw [Int.ofNat_lt, h2]; omega
  exact ⟨by simp [e1], by simp [e2]⟩
theorem MortonOrder : perigeelaw6_MortonOrder.Pure := by
  intro a0 a1 a2 a3 a4 w0 w1 w2 w3 w4
  obtain ⟨h0, h0'⟩ := bounds_u32 w0
  obtain ⟨h1, h1'⟩ := bounds_u32 w1
  obtain ⟨h2, h2'⟩ := bounds_u32 w2
  obtain ⟨h3, h3'⟩ := bounds_i32 w3
  obtain ⟨h4, h4'⟩ := bounds_i32 w4
  unfold perigeelaw6_MortonOrder.f perigeeref1_Int.f
  simp only [Option.bind_some]
  obtain ⟨r, hr, _, r0, r1, re⟩ := row_some (mx a3 (-9223372036854775807)) 0
  obtain ⟨s, hs, _, s0, s1, se⟩ := row_some a4 18446744073709551615
  have hc : morton_Cell.f (mx a3 (-9223372036854775807)) 0 a4 18446744073709551615 = some (r, s) := by unfold morton_Cell.f; rw [hr, hs]; rfl
  have q := lt_iff a0 a1 a2 h0 h0' h1 h1'
  rw [hc, key_int a0 a2 h0 (by omega) h2 (by omega), key_int a1 a2 h1 (by omega) h2 (by omega), key_int a2 a0 h2 (by omega) h0 (by omega), key_int a2 a1 h2 (by omega) h1 (by omega), awake_true]
  simp only [Option.bind_some]
  rw [if_pos q.1, if_pos q.2, if_pos, if_pos]
  · unfold wrap64; omega
  · unfold mx at re; unfold wrap64; omega
end Go.Proofs.Ytlkehngobhmhbaa.Pure
