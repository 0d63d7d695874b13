/- The pure law of LimbRoots. -/
import Derived.Test.YtlpdongckcaclaaRx
import Derived.Test.YtlpdongckcaclaaNums
namespace Go.Proofs.Ytlpdongckcaclaa.Pure
open Go.RowKit Go.Proofs.Ytlpdongckcaclaa.Plain Go.Proofs.Ytlpdongckcaclaa.Limb Go.Proofs.Ytlpdongckcaclaa.R Go.Proofs.Ytlpdongckcaclaa.Nums Go.Proofs.YtlpdongckcaclaaW.PrintWords Go.Proofs.YtlpdongckcaclaaW.PrintLast Go.Proofs.YtlpdongckcaclaaW.PrintMore
set_option linter.unusedVariables false
set_option linter.unusedSimpArgs false

theorem LimbRoots : perigeelaw1_LimbRoots.Pure := by
  intro a b c d wa wb wc wd
  obtain ⟨a, rfl, la⟩ := u64_nat wa
  obtain ⟨b, rfl, lb⟩ := u64_nat wb
  obtain ⟨c, rfl, lc⟩ := u64_nat wc
  obtain ⟨d, rfl, ld⟩ := u64_nat wd
  refine ⟨300, ?_⟩
  unfold perigeelaw1_LimbRoots.f
  obtain ⟨R, hR, hn⟩ := sqrtE a b c d la lb lc ld 300 (Nat.le_refl _)
  have hl := hn.hl
  have hu := hn.hu
  have hb := hn.hb
  rw [Nat.pow_zero] at hu hb
  have hRv := val2_wrd R (by omega)
  have r1 := wrd_lt 1 R
  have r0 := wrd_lt 0 R
  rw [hR, awakeE 300 (Nat.le_refl _)]
  clear hR
  generalize wrd 1 R = w1 at *
  generalize wrd 0 R = w0 at *
  rw [Option.bind_some]
  obtain ⟨m3, m2, m1, m0, hm, hv, _, k2, k1, k0⟩ := mulX w1 w0 w1 w0 r1 r0 r1 r0
  rw [hRv] at hv
  dsimp only
  rw [hm, Option.bind_some]
  dsimp only
  rw [show (300 : Nat) = 294 + 6 from rfl, cmpE 294 m3 m2 m1 m0 a b c d k2 k1 k0 lb lc ld, Option.bind_some, hv]
  rw [if_neg (show ¬ cmpN (R * R) (val4 a b c d) > 0 by unfold cmpN; split <;> (try split) <;> omega)]
  obtain ⟨s1, s0, o, hs, ho, hf, l1, l0⟩ := addX w1 w0 0 1 r1 r0 (by decide) (by decide)
  have hs' : limb_Add.f (w1 : Int) (w0 : Int) 0 1 = _ := hs
  rw [hs', Option.bind_some]
  dsimp only
  cases o
  · rw [if_neg (by decide)]
    have hS := hf rfl
    have hS : val2 s1 s0 = R + 1 := by rw [hS, hRv]; rfl
    obtain ⟨p3, p2, p1, p0, hp, hpv, _, q2, q1, q0⟩ := mulX s1 s0 s1 s0 l1 l0 l1 l0
    rw [hp, Option.bind_some]
    dsimp only
    rw [cmpE 294 p3 p2 p1 p0 a b c d q2 q1 q0 lb lc ld, Option.bind_some, hpv, hS, if_pos (show cmpN ((R + 1) * (R + 1)) (val4 a b c d) > 0 by unfold cmpN; rw [if_neg (by omega), if_neg (by omega)]; decide), Option.bind_some]
  · rw [if_pos rfl, Option.bind_some]

end Go.Proofs.Ytlpdongckcaclaa.Pure
