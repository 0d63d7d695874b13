/- The pure law of LimbRest. -/
import Derived.Test.YtlpdongckcaclaaBx
import Derived.Test.YtlpdongckcaclaaNumsB
namespace Go.Proofs.Ytlpdongckcaclaa.Pure
open Go.RowKit Go.Proofs.Ytlpdongckcaclaa.Plain Go.Proofs.Ytlpdongckcaclaa.Limb Go.Proofs.Ytlpdongckcaclaa.B Go.Proofs.Ytlpdongckcaclaa.Nums Go.Proofs.YtlpdongckcaclaaW.PrintWords Go.Proofs.YtlpdongckcaclaaW.PrintLast Go.Proofs.YtlpdongckcaclaaW.PrintMore
set_option linter.unusedVariables false
set_option linter.unusedSimpArgs false

theorem LimbRest : perigeelaw1_LimbRest.Pure := by
  intro a b c d p q wa wb wc wd wp wq
  obtain ⟨a, rfl, la⟩ := u64_nat wa
  obtain ⟨b, rfl, lb⟩ := u64_nat wb
  obtain ⟨c, rfl, lc⟩ := u64_nat wc
  obtain ⟨d, rfl, ld⟩ := u64_nat wd
  obtain ⟨p, rfl, lp⟩ := u64_nat wp
  obtain ⟨q, rfl, lq⟩ := u64_nat wq
  obtain ⟨k, hk⟩ : ∃ k, 300 ≤ k := ⟨300, Nat.le_refl _⟩
  refine ⟨k, ?_⟩
  have hw := awakeE k hk
  unfold perigeelaw1_LimbRest.f
  by_cases hz : p = 0 ∧ q = 0
  · obtain ⟨rfl, rfl⟩ := hz
    have hd : limb_Div.f (a : Int) (b : Int) (c : Int) (d : Int) ((0 : Nat) : Int) ((0 : Nat) : Int) = _ := divE0 a b c d la lb lc ld
    rw [hd, Option.bind_some]
    dsimp only
    rw [if_pos (by decide), if_neg (by decide), if_pos (by decide), if_pos (by decide), hw, Option.bind_some]
  · have hV : ¬ val2 p q = 0 := by unfold val2; omega
    have hcond : ¬ (((p : Int) == 0 && ((q : Int) == 0)) = true) := by
      rw [Bool.and_eq_true, beq_iff_eq, beq_iff_eq]; omega
    obtain ⟨q3, q2, q1, q0, r1, r0, hd, hq, hr, k3, k2, k1, k0, j1, j0⟩ := divX a b c d p q la lb lc ld lp lq hV
    obtain ⟨L3, L2, L1, L0, hL, vL, bL3, bL2, bL1, bL0⟩ := mulX q1 q0 p q k1 k0 lp lq
    obtain ⟨H3, H2, H1, H0, hH, vH, bH3, bH2, bH1, bH0⟩ := mulX q3 q2 p q k3 k2 lp lq
    obtain ⟨s1, s0, o, hs, so, sf, ls1, ls0⟩ := addX L1 L0 r1 r0 bL1 bL0 j1 j0
    obtain ⟨t1, t0, u, ht, tu, tf, lt1, lt0⟩ := addX L3 L2 H1 H0 bL3 bL2 bH1 bH0
    obtain ⟨x1, x0, v, hx, xv, xf, lx1, lx0⟩ := subX r1 r0 p q j1 j0 lp lq
    obtain ⟨y1, y0, z, hy, yz, yf, ly1, ly0⟩ := addX t1 t0 0 1 lt1 lt0 (by decide) (by decide)
    have hy' : limb_Add.f (t1 : Int) (t0 : Int) 0 1 = _ := hy
    have hA := val4_lt la lb lc ld
    have hRV : val4 a b c d % val2 p q < val2 p q := Nat.mod_lt _ (by omega)
    rw [val4_split q3 q2 q1 q0] at hq
    have hsum := rest_sum hq
    rw [← vL, ← vH, ← hr, val4_split L3 L2 L1 L0, val4_split H3 H2 H1 H0] at hsum
    rw [← hr] at hRV
    have e1 : val2 0 1 = 1 := val2_0 1
    rw [e1] at yz yf
    have bS := val2_lt ls1 ls0
    have bT := val2_lt lt1 lt0
    have bY := val2_lt ly1 ly0
    have bX := val2_lt lx1 lx0
    have bab := val2_lt la lb
    have bcd := val2_lt lc ld
    rw [val4_split a b c d] at hsum hA
    have hv : v = true := by
      cases v
      · have := xf rfl; omega
      · rfl
    have hu : u = false := by
      cases u
      · rfl
      · have := tu rfl; omega
    have hT := tf hu
    have hH0 : val2 H3 H2 = 0 := by omega
    obtain ⟨rfl, rfl⟩ : H3 = 0 ∧ H2 = 0 := by unfold val2 at hH0; omega
    subst hv hu
    rw [hd, Option.bind_some]
    dsimp only
    rw [if_neg hcond, hL, Option.bind_some, hH, Option.bind_some]
    dsimp only
    rw [hs, Option.bind_some, ht, Option.bind_some]
    dsimp only
    cases o
    · have hS := sf rfl
      obtain ⟨rfl, rfl⟩ : t1 = a ∧ t0 = b := val2_injN lt0 lb (by omega)
      obtain ⟨rfl, rfl⟩ : s1 = c ∧ s0 = d := val2_injN ls0 ld (by omega)
      rw [if_neg (by decide), hx, Option.bind_some]
      dsimp only
      rw [if_pos rfl, if_neg (by decide), if_pos (by decide), if_pos (by simp only [beq_self_eq_true, Bool.and_self]), if_pos rfl, hw, Option.bind_some]
    · have hS := so rfl
      have hz : z = false := by
        cases z
        · rfl
        · have := yz rfl; omega
      have hY := yf hz
      subst hz
      obtain ⟨rfl, rfl⟩ : y1 = a ∧ y0 = b := val2_injN ly0 lb (by omega)
      obtain ⟨rfl, rfl⟩ : s1 = c ∧ s0 = d := val2_injN ls0 ld (by omega)
      rw [if_pos rfl, hy', Option.bind_some]
      dsimp only
      rw [if_neg (by decide), hx, Option.bind_some]
      dsimp only
      rw [if_pos rfl, if_neg (by decide), if_pos (by decide), if_pos (by simp only [beq_self_eq_true, Bool.and_self]), if_pos rfl, hw, Option.bind_some]

end Go.Proofs.Ytlpdongckcaclaa.Pure
