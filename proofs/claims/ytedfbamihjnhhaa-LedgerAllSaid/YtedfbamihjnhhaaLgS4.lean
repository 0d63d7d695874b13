/- What all is together: what the loops make of the bodies. -/
import Derived.Test.YtedfbamihjnhhaaLgS3
namespace Go.Proofs.Ytedfbamihjnhhaa.Own
open Go Go.RowKit Go.Proofs Go.Proofs.Ytedfbamihjnhhaa.Plain
set_option linter.unusedVariables false
set_option linter.unusedSimpArgs false
set_option maxRecDepth 100000
/-! ### both are one, where numbers may be -/
def FxMay (a : Fx) : Prop := a.n ≠ -170141183460469231731687303715884105728
def VxMay (a : Vx) : Prop := FxMay a.x ∧ FxMay a.y
theorem small_lo {x y z : Nat} (h : z = x * 340282366920938463463374607431768211456 + y) (hm : ¬ 170141183460469231731687303715884105728 ≤ z) : y < 170141183460469231731687303715884105728 := by omega
theorem sgn_in {s : Bool} {n : Nat} (h : n < 170141183460469231731687303715884105728) : (-170141183460469231731687303715884105728 ≤ sgn s n ∧ sgn s n < 170141183460469231731687303715884105728) ∧ sgn s n ≠ -170141183460469231731687303715884105728 := by cases s <;> simp only [sgn, cond_true, cond_false] <;> omega
theorem told_may (m : Four) (s : Bool) (h : (told m s).2 = 0) : FxMay (told m s).1 := by
  by_cases hm : 170141183460469231731687303715884105728 ≤ m.n
  · have e : told m s = (Fx.of 0, 3) := if_pos hm
    rw [e] at h
    exact absurd h (by decide)
  · have e : told m s = (Fx.of (sgn s m.lo.n), 0) := if_neg hm
    rw [e]
    obtain ⟨h1, h2⟩ := sgn_in (s := s) (small_lo (Four.n_eq m) hm)
    unfold FxMay
    rw [Fx.of_n _ h1]
    exact h2
theorem fadd_may {a b : Fx} (ha : FxMay a) (hb : FxMay b) (h : (fadd a b).2 = 0) : FxMay (fadd a b).1 := by
  unfold fadd at h ⊢
  split at h
  · rename_i hs; rw [if_pos hs]; exact told_may _ _ h
  · rename_i hs
    rw [if_neg hs]
    have h1 := a.lt; have h2 := b.lt
    have n1 := a.neg_iff; have n2 := b.neg_iff
    unfold FxMay at *
    have hopp : (a.n < 0 ∧ ¬ b.n < 0) ∨ (¬ a.n < 0 ∧ b.n < 0) := by
      unfold Fx.below at hs
      by_cases q1 : a.hi < 0 <;> by_cases q2 : b.hi < 0 <;> simp [q1, q2] at hs <;> omega
    rw [Fx.of_n _ (by omega)]
    omega
theorem mass_same {a : Fx} {ms : List Fx} (ha : FxMay a) (hm : ∀ m ∈ ms, FxMay m) : foldE radd a ms = foldE fadd a ms :=
  foldE_congr (A := FxMay) (fun a b ha hb => radd_eq a b ha hb) (fun a b ha hb h => fadd_may ha hb h) ms a ha hm
theorem mom_same {a : Vx} {ms : List Vx} (ha : VxMay a) (hm : ∀ m ∈ ms, VxMay m) : foldE rvadd a ms = foldE vadd a ms :=
  foldE_congr (A := VxMay) (fun a b ha hb => by unfold rvadd vadd; rw [radd_eq _ _ ha.1 hb.1, radd_eq _ _ ha.2 hb.2]) (fun a b ha hb h => by
    unfold vadd at h ⊢
    split at h
    · rename_i h1
      rw [if_pos h1]
      split at h
      · rename_i h2
        rw [if_pos h2]
        exact ⟨fadd_may ha.1 hb.1 h1, fadd_may ha.2 hb.2 h2⟩
      · rename_i h2; exact absurd h h2
    · rename_i h1; exact absurd h h1) ms a ha hm
/-- behind an error there is nought -/
theorem fold_zero : ∀ (ms : List Fx) (a : Fx), (foldE fadd a ms).2 ≠ 0 → (foldE fadd a ms).1 = Fx.of 0 ∧ (foldE fadd a ms).2 = 3
  | [], _, h => absurd rfl h
  | m :: ms, a, h => by
    simp only [foldE] at h ⊢
    split at h
    · rename_i h0; rw [if_pos h0]; exact fold_zero ms _ h
    · rename_i h0
      rw [if_neg h0]
      unfold fadd at h0 ⊢
      split at h0
      · rename_i hs
        rw [if_pos hs]
        generalize (⟨⟨0, 0, by decide⟩, Two.of (a.mag.n + m.mag.n)⟩ : Four) = q at *
        by_cases hm : 170141183460469231731687303715884105728 ≤ q.n
        · have e : told q a.below = (Fx.of 0, 3) := if_pos hm
          rw [e]; exact ⟨rfl, rfl⟩
        · have e : told q a.below = (Fx.of (sgn a.below q.lo.n), 0) := if_neg hm
          rw [e] at h0
          exact absurd rfl h0
      · exact absurd rfl h0
theorem vfold_zero : ∀ (ms : List Vx) (a : Vx), (foldE vadd a ms).2 ≠ 0 → (foldE vadd a ms).1 = ⟨.zero, .zero⟩
  | [], _, h => absurd rfl h
  | m :: ms, a, h => by
    simp only [foldE] at h ⊢
    split at h
    · rename_i h0; rw [if_pos h0]; exact vfold_zero ms _ h
    · rename_i h0
      rw [if_neg h0]
      unfold vadd at h0 ⊢
      split at h0
      · rename_i h1
        rw [if_pos h1]
        split at h0
        · exact absurd rfl h0
        · rename_i h2; rw [if_neg h2]
      · rename_i h1; rw [if_neg h1]
end Go.Proofs.Ytedfbamihjnhhaa.Own
