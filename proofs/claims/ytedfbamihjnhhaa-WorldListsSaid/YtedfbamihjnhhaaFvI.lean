/- A walk by reckoning: loops with a law of what stays (J i: behind i rounds). -/
import Derived.Test.YtedfbamihjnhhaaFvV
namespace Go.Proofs.Ytedfbamihjnhhaa.Own
open Go Go.RowKit Go.Proofs
set_option linter.unusedVariables false
theorem inv_ok {T : RT} {F : Nat → List Int → List Int} (J : Nat → List Int → Prop) (N : Nat) (hok : ∀ i xs, i ≤ N → J i xs → T.ok (envOf F xs)) (hnx : ∀ i xs ys, i ≤ N → J i xs → T.get (envOf F xs) = (none, ys) → i < N ∧ J (i + 1) ys) :
    ∀ (k i j : Nat) (xs : List Int), i + k = N + 1 → 0 < k → J i xs → RunOK (fun _ => T) F j k xs
  | 0, _, _, _, _, hk, _ => by omega
  | k + 1, i, j, xs, hik, _, hj => by
    refine ⟨hok i xs (by omega) hj, fun ys hy => ?_⟩
    obtain ⟨h1, h2⟩ := hnx i xs ys (by omega) hj hy
    exact inv_ok J N hok hnx k (i + 1) (j + 1) ys (by omega) (by omega) h2
theorem inv_run {T : RT} {F : Nat → List Int → List Int} (J : Nat → List Int → Prop) (N : Nat) (R : Nat → List Int → Prop) (hnx : ∀ i xs ys, i ≤ N → J i xs → T.get (envOf F xs) = (none, ys) → i < N ∧ J (i + 1) ys) (hout : ∀ i xs e ys, i ≤ N → J i xs → T.get (envOf F xs) = (some e, ys) → R e ys) :
    ∀ (k i j : Nat) (xs : List Int), i + k = N + 1 → 0 < k → J i xs → ∃ e ys, runL (fun _ => T) F j k xs = some (e, ys) ∧ R e ys
  | 0, _, _, _, _, hk, _ => by omega
  | k + 1, i, j, xs, hik, _, hj => by
    have hn : ∃ e ys, T.get (envOf F xs) = (e, ys) := ⟨_, _, rfl⟩
    obtain ⟨e, ys, he⟩ := hn
    cases e with
    | none =>
      obtain ⟨h1, h2⟩ := hnx i xs ys (by omega) hj he
      obtain ⟨e', zs, g1, g2⟩ := inv_run J N R hnx hout k (i + 1) (j + 1) ys (by omega) (by omega) h2
      exact ⟨e', zs, by simp only [runL, he]; exact g1, g2⟩
    | some e => exact ⟨e, ys, by simp only [runL, he], hout i xs e ys (by omega) hj he⟩
end Go.Proofs.Ytedfbamihjnhhaa.Own
