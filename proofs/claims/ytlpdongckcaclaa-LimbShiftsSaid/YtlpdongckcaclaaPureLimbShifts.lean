/- The pure law of LimbShifts. -/
import Derived.Test.YtlpdongckcaclaaSx
import Derived.Test.YtlpdongckcaclaaNumsS
namespace Go.Proofs.Ytlpdongckcaclaa.Pure
open Go.RowKit Go.Proofs.Ytlpdongckcaclaa.Plain Go.Proofs.Ytlpdongckcaclaa.Limb Go.Proofs.Ytlpdongckcaclaa.S Go.Proofs.Ytlpdongckcaclaa.Nums Go.Proofs.YtlpdongckcaclaaW.PrintWords Go.Proofs.YtlpdongckcaclaaW.PrintLast Go.Proofs.YtlpdongckcaclaaW.PrintMore
set_option linter.unusedVariables false
set_option linter.unusedSimpArgs false

theorem LimbShifts : perigeelaw1_LimbShifts.Pure := by
  intro a b c d p q r t n wa wb wc wd wp wq wr wt wn
  obtain ⟨a, rfl, la⟩ := u64_nat wa
  obtain ⟨b, rfl, lb⟩ := u64_nat wb
  obtain ⟨c, rfl, lc⟩ := u64_nat wc
  obtain ⟨d, rfl, ld⟩ := u64_nat wd
  obtain ⟨p, rfl, lp⟩ := u64_nat wp
  obtain ⟨q, rfl, lq⟩ := u64_nat wq
  obtain ⟨r, rfl, lr⟩ := u64_nat wr
  obtain ⟨t, rfl, lt⟩ := u64_nat wt
  have hn : n ≤ 9223372036854775807 := (bounds_i64 wn).2
  obtain ⟨k, hk⟩ : ∃ k, 300 ≤ k := ⟨300, Nat.le_refl _⟩
  refine ⟨k + 6, ?_⟩
  have hw := awakeE (k + 6) (by omega)
  have h1 := shlRef a b c d la lb lc ld n hn (k + 6) (by omega)
  have h2 := shrRef a b c d la lb lc ld n hn (k + 6) (by omega)
  have h3 := cmpE k a b c d p q r t lb lc ld lq lr lt
  have h4 := cmpRef k a b c d p q r t lb lc ld lq lr lt
  have h5 := lenE a b c d la lb lc ld
  have h6 := lenRef a b c d la lb lc ld (k + 6) (by omega)
  have h7 := rootRef a b c d la lb lc ld (k + 6) (by omega)
  obtain ⟨R, h8, _⟩ := sqrtE a b c d la lb lc ld (k + 6) (by omega)
  have h9 : ∃ x : Int × Int × Int × Int, limb_Shl.f (a : Int) (b : Int) (c : Int) (d : Int) n = some x := by
    by_cases h0 : n < 0
    · exact ⟨_, shlM a b c d n h0 la lb lc ld⟩
    · obtain ⟨n, rfl⟩ : ∃ m : Nat, n = (m : Int) := ⟨n.toNat, by omega⟩
      exact ⟨_, shlE a b c d n la lb lc ld⟩
  have h10 : ∃ x : Int × Int × Int × Int, limb_Shr.f (a : Int) (b : Int) (c : Int) (d : Int) n = some x := by
    by_cases h0 : n < 0
    · exact ⟨_, shrM a b c d n h0 la lb lc ld⟩
    · obtain ⟨n, rfl⟩ : ∃ m : Nat, n = (m : Int) := ⟨n.toNat, by omega⟩
      exact ⟨_, shrE a b c d n la lb lc ld⟩
  obtain ⟨⟨x3, x2, x1, x0⟩, h9⟩ := h9
  obtain ⟨⟨y3, y2, y1, y0⟩, h10⟩ := h10
  unfold perigeelaw1_LimbShifts.f
  rw [h1, h2, h3, h4, h5, h6, h7, h8, h9, h10, hw]
  generalize cmpN (val4 a b c d) (val4 p q r t) = C
  generalize ((blen (val4 a b c d) : Nat) : Int) = L
  generalize ((wrd 1 R : Nat) : Int) = R1
  generalize ((wrd 0 R : Nat) : Int) = R0
  simp only [bs, beq_self_eq_true, Bool.and_self, if_true]

end Go.Proofs.Ytlpdongckcaclaa.Pure
