/- The pure law of LimbMoves. -/
import Derived.Test.YtlpdongckcaclaaVx
import Derived.Test.YtlpdongckcaclaaNumsV
namespace Go.Proofs.Ytlpdongckcaclaa.Pure
open Go.RowKit Go.Proofs.Ytlpdongckcaclaa.Plain Go.Proofs.Ytlpdongckcaclaa.Limb Go.Proofs.Ytlpdongckcaclaa.V Go.Proofs.Ytlpdongckcaclaa.Nums Go.Proofs.YtlpdongckcaclaaW.PrintWords Go.Proofs.YtlpdongckcaclaaW.PrintLast Go.Proofs.YtlpdongckcaclaaW.PrintMore
set_option linter.unusedVariables false
set_option linter.unusedSimpArgs false

theorem LimbMoves : perigeelaw1_LimbMoves.Pure := by
  intro a b c d n m wa wb wc wd wn wm
  obtain ⟨n1, n2⟩ := bounds_u8 wn
  obtain ⟨m1, m2⟩ := bounds_u8 wm
  obtain ⟨n, rfl⟩ : ∃ x : Nat, n = (x : Int) := ⟨n.toNat, by omega⟩
  obtain ⟨m, rfl⟩ : ∃ x : Nat, m = (x : Int) := ⟨m.toNat, by omega⟩
  obtain ⟨a, rfl, la⟩ := u64_nat wa
  obtain ⟨b, rfl, lb⟩ := u64_nat wb
  obtain ⟨c, rfl, lc⟩ := u64_nat wc
  obtain ⟨d, rfl, ld⟩ := u64_nat wd
  refine ⟨300 + 8, ?_⟩
  have J := j0E 300 a b c d n (Nat.le_refl _) (by omega) la lb lc ld
  generalize 300 + 8 = K at *
  unfold perigeelaw1_LimbMoves.f
  obtain ⟨s3, s2, s1, s0, hs, sv, sl3, sl2, sl1, sl0⟩ := shlX a b c d n la lb lc ld
  obtain ⟨t3, t2, t1, t0, ht, tv, tl3, tl2, tl1, tl0⟩ := shlX s3 s2 s1 s0 m sl3 sl2 sl1 sl0
  obtain ⟨u3, u2, u1, u0, hu, uv, ul3, ul2, ul1, ul0⟩ := shlX a b c d (n + m) la lb lc ld
  obtain ⟨p3, p2, p1, p0, hp, pv, pl3, pl2, pl1, pl0⟩ := shrX a b c d n la lb lc ld
  obtain ⟨q3, q2, q1, q0, hq, qv, ql3, ql2, ql1, ql0⟩ := shrX p3 p2 p1 p0 m pl3 pl2 pl1 pl0
  obtain ⟨r3, r2, r1, r0, hr, rv, rl3, rl2, rl1, rl0⟩ := shrX a b c d (n + m) la lb lc ld
  have e1 : val4 t3 t2 t1 t0 = val4 u3 u2 u1 u0 := by
    rw [tv, uv, sv]; exact shlN_move rfl rfl
  have e2 : val4 q3 q2 q1 q0 = val4 r3 r2 r1 r0 := by
    rw [qv, rv, pv]; exact shrN_move rfl rfl
  obtain ⟨rfl, rfl, rfl, rfl⟩ := val4_injN tl2 tl1 tl0 ul2 ul1 ul0 e1
  obtain ⟨rfl, rfl, rfl, rfl⟩ := val4_injN ql2 ql1 ql0 rl2 rl1 rl0 e2
  have enm : (n : Int) + m = ((n + m : Nat) : Int) := (Int.natCast_add n m).symm
  rw [lenE a b c d la lb lc ld, Option.bind_some, hs, Option.bind_some]
  dsimp only
  rw [ht, Option.bind_some, enm, hu, Option.bind_some]
  rw [if_neg (by simp only [beq_self_eq_true, Bool.not_true, Bool.or_self]; decide), hp, Option.bind_some]
  dsimp only
  rw [hq, Option.bind_some, hr, Option.bind_some]
  simp only [beq_self_eq_true, Bool.not_true, Bool.or_self]
  exact J

end Go.Proofs.Ytlpdongckcaclaa.Pure
