/- A walk by reckoning: an argument of a struct type opened into numbers and lists. -/
import Derived.Test.YtedfbamihjnhhaaFvO
namespace Go.Proofs.Ytedfbamihjnhhaa.Own
open Go Go.RowKit Go.Proofs Go.ChangeShapes Go.WideShapes Go.ChangeAt
set_option linter.unusedVariables false
set_option linter.unusedSimpArgs false
theorem cell_spot {P : Program} {w : World} {base : Nat} {t : TypeId} {v : Value} (h : Cell.okWide P w .any base t v) : spotOK v := by
  intro a n c hv
  subst hv
  unfold Cell.okWide at h
  split at h
  · rename_i h2; cases h2
  · rename_i h2; cases h2
  · rename_i h2; cases h2
  · rename_i h2; cases h2
  · rename_i h2; cases h2
  · rename_i h2; cases h2
  · rename_i h2; cases h2
  · unfold Cell.ok at h
    split at h
    all_goals first
      | (rename_i h2; cases h2; done)
      | (rename_i h2 h3; cases h3; done)
      | (rename_i h2 h3; cases h3; exact h.2.2.2.1)
      | exact h.elim
section
variable {H : Type} {enc' : TypeId × Value → H} {P : Program} {w : World} {base b2 : Nat} {sp : Nat → Bool} {held : Bool}
theorem open_agg {t : TypeId} {v : Value} {d : DataW H} {ps : List MemPlace} {fs : Array Field} {ls : List Lf} {dd : Nat} (hu : P.underlying t = some (.struct fs)) (hok : Value.okWide P w .any b2 t v) (h : DataW.Trod enc' P w base sp held t v d ps) (hlf : lfOf P dd t = some ls) :
    ∃ cs xs ss, v = .agg (List.toArray cs) ∧ LfsOK w ls cs xs ss := by
  unfold Value.okWide at hok
  rw [hu] at hok
  obtain ⟨cs, rfl, hsz, ts, hts, hn, hrow⟩ := hok
  obtain ⟨fuel, hf⟩ := h
  obtain ⟨xs, ss, hl⟩ := trod_lf dd hlf hf (.inr fun v hv => by
    have hv' : v ∈ cs.toList := hv
    obtain ⟨i, hi⟩ := List.getElem?_of_mem hv'
    obtain ⟨u, _, hu2⟩ := hrow i v (by simpa using hi)
    exact cell_spot hu2)
  exact ⟨cs.toList, xs, ss, by cases cs; rfl, hl⟩
end
/-- a number at its place -/
theorem LfsOK.at {w : World} {k : Option IntKind} : ∀ {ls : List Lf} {cs : List Value} {xs : List Int} {ss : List (Nat × Nat × Nat)} (i : Nat), LfsOK w ls cs xs ss → ls[i]? = some (.num k) → inK k (xs.getD i 0)
  | _, _, _, _, i, .nil, h => by cases i <;> cases h
  | _, _, _, _, 0, .num hk t, h => by cases h; exact hk
  | _, _, _, _, i + 1, .num hk t, h => by rw [List.getD_cons_succ]; exact LfsOK.at i t h
  | _, _, _, _, 0, .sl hk t, h => by cases h
  | _, _, _, _, i + 1, .sl hk t, h => by rw [List.getD_cons_succ]; exact LfsOK.at i t h
theorem LfsOK.atL {w : World} {e : TypeId} {ks : Ks} : ∀ {ls : List Lf} {cs : List Value} {xs : List Int} {ss : List (Nat × Nat × Nat)} (i : Nat), LfsOK w ls cs xs ss → ls[i]? = some (.sl e ks) → (dec (xs.getD i 0)).length ≤ maxLen
  | _, _, _, _, i, .nil, h => by cases i <;> cases h
  | _, _, _, _, 0, .num hk t, h => by cases h
  | _, _, _, _, i + 1, .num hk t, h => by rw [List.getD_cons_succ]; exact LfsOK.atL i t h
  | _, _, _, _, 0, .sl hk t, h => by rw [List.getD_cons_zero, dec_enc]; exact hk.l
  | _, _, _, _, i + 1, .sl hk t, h => by rw [List.getD_cons_succ]; exact LfsOK.atL i t h
def slN : List Lf → Nat
  | [] => 0
  | .num _ :: r => slN r
  | .sl _ _ :: r => slN r + 1
theorem LfsOK.slen {w : World} : ∀ {ls : List Lf} {cs : List Value} {xs : List Int} {ss : List (Nat × Nat × Nat)}, LfsOK w ls cs xs ss → ss.length = slN ls
  | _, _, _, _, .nil => rfl
  | _, _, _, _, .num _ t => by rw [slN]; exact LfsOK.slen t
  | _, _, _, _, .sl _ t => by rw [slN, List.length_cons, LfsOK.slen t]
end Go.Proofs.Ytedfbamihjnhhaa.Own
