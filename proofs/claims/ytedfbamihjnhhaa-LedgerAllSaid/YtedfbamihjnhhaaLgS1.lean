/- What all is together: what the loops make of the bodies. -/
import Derived.Test.YtedfbamihjnhhaaLgS0
namespace Go.Proofs.Ytedfbamihjnhhaa.Own
open Go Go.RowKit Go.Proofs Go.Proofs.Ytedfbamihjnhhaa.Plain
set_option linter.unusedVariables false
set_option linter.unusedSimpArgs false
set_option maxRecDepth 100000
/-! ### the document's mass -/
section
variable {F : Nat → List Int → List Int} {cur : List Int} {c : Int} {l : List (List Int)} {i : Nat}
theorem rm_in (h19 : F 19 = gRadd) {a : Fx} (h0 : cur.getD 13 0 = c) (h1 : cur.getD 24 0 = a.hi) (h2 : cur.getD 25 0 = a.lo) (h4 : cur.getD 26 0 = 0) (h3 : cur.getD 27 0 = (i : Int)) (hl : dec c = l) (hlen : l.length ≤ maxLen) (hi : i < l.length) :
    ∃ ys, rmT.get (envOf F cur) = (none, ys) ∧ ys.getD 13 0 = c ∧ ys.getD 24 0 = (radd a (massOf (l.getD i []))).1.hi ∧ ys.getD 25 0 = (radd a (massOf (l.getD i []))).1.lo ∧ ys.getD 26 0 = (radd a (massOf (l.getD i []))).2 ∧ ys.getD 27 0 = ((i + 1 : Nat) : Int) := by
  have e3 : IntKind.i64.wrap (i : Int) = (i : Int) := i64_nat (by omega)
  have e4 : IntKind.i64.wrap ((i : Int) + 1) = ((i + 1 : Nat) : Int) := by rw [show (i : Int) + 1 = ((i + 1 : Nat) : Int) by omega]; exact i64_nat (by omega)
  have hlt : decide ((i : Int) < ((sat l.length : Nat) : Int)) = true := by rw [sat_of hlen]; exact decide_eq_true (by omega)
  have hget : ((i : Int)).toNat = i := by omega
  have w1 : IntKind.i64.wrap 1 = 1 := rfl
  have w0 : IntKind.i64.wrap 0 = 0 := rfl
  have hg : ∀ k, (F 19 [a.hi, a.lo, IntKind.i64.wrap ((l.getD i []).getD 0 0), IntKind.u64.wrap ((l.getD i []).getD 1 0)]).getD k 0 = [(radd a (massOf (l.getD i []))).1.hi, (radd a (massOf (l.getD i []))).1.lo, (radd a (massOf (l.getD i []))).2].getD k 0 := fun k => by
    rw [h19]
    show (gRadd _).getD k 0 = _
    unfold gRadd massOf
    simp only [List.getD_cons_zero, List.getD_cons_succ, fxW_self]
  have he := err64 (radd_err a (massOf (l.getD i [])))
  have hz : ((0 : Int) == 0) = true := rfl
  simp only [rmT, RT.get, SE.val, SE.vals, List.map, valCmp, valBin, b2i_ne, envOf_iv, envOf_F, h0, h1, h2, h3, h4, hl, e3, e4, hlt, hget, w1, w0, w_hi, w_lo, wrK, hg, List.getD_cons_zero, List.getD_cons_succ, he, hz, cond_true]
  exact ⟨_, rfl, rfl, rfl, rfl, rfl, rfl⟩
theorem rm_out {a : Fx} {e : Int} (he : e = 0 ∨ e = 3) (h0 : cur.getD 13 0 = c) (h1 : cur.getD 24 0 = a.hi) (h2 : cur.getD 25 0 = a.lo) (h4 : cur.getD 26 0 = e) (h3 : cur.getD 27 0 = (i : Int)) (hl : dec c = l) (hlen : l.length ≤ maxLen) (hi2 : i ≤ l.length) (hi : ¬ i < l.length ∨ e = 3) :
    ∃ ys, rmT.get (envOf F cur) = (some 0, ys) ∧ ys.getD 24 0 = a.hi ∧ ys.getD 25 0 = a.lo ∧ ys.getD 26 0 = e := by
  have e3 : IntKind.i64.wrap (i : Int) = (i : Int) := i64_nat (by omega)
  have w0 : IntKind.i64.wrap 0 = 0 := rfl
  have he' := err64 he
  by_cases hb : i < l.length
  · have hlt : decide ((i : Int) < ((sat l.length : Nat) : Int)) = true := by rw [sat_of hlen]; exact decide_eq_true (by omega)
    have h33 : e = 3 := by rcases hi with hi | hi; exact absurd hb hi; exact hi
    subst h33
    have hz : ((3 : Int) == 0) = false := rfl
    simp only [rmT, RT.get, SE.val, SE.vals, List.map, valCmp, valBin, b2i_ne, envOf_iv, envOf_F, h0, h1, h2, h3, h4, hl, e3, hlt, w0, w_hi, w_lo, wrK, he', hz, cond_true, cond_false]
    exact ⟨_, rfl, rfl, rfl, rfl⟩
  · have hlt : decide ((i : Int) < ((sat l.length : Nat) : Int)) = false := by rw [sat_of hlen]; exact decide_eq_false (by omega)
    simp only [rmT, RT.get, SE.val, SE.vals, List.map, valCmp, valBin, b2i_ne, envOf_iv, envOf_F, h0, h1, h2, h3, h4, hl, e3, hlt, w0, w_hi, w_lo, wrK, he', cond_true, cond_false]
    exact ⟨_, rfl, rfl, rfl, rfl⟩
end
theorem rm_sum {F : Nat → List Int → List Int} (h19 : F 19 = gRadd) {c : Int} {l : List (List Int)} (hl : dec c = l) (hlen : l.length ≤ maxLen) : ∀ (k i j : Nat) (a : Fx) (cur : List Int), i + k = l.length + 1 → 0 < k → cur.getD 13 0 = c → cur.getD 24 0 = a.hi → cur.getD 25 0 = a.lo → cur.getD 26 0 = 0 → cur.getD 27 0 = (i : Int) →
    ∃ ys, runL (fun _ => rmT) F j k cur = some (0, ys) ∧ ys.getD 24 0 = (foldE radd a ((l.drop i).map massOf)).1.hi ∧ ys.getD 25 0 = (foldE radd a ((l.drop i).map massOf)).1.lo ∧ ys.getD 26 0 = (foldE radd a ((l.drop i).map massOf)).2
  | 0, _, _, _, _, _, hk, _, _, _, _, _ => by omega
  | k + 1, i, j, a, cur, hik, _, h0, h1, h2, h4, h3 => by
    simp only [runL]
    by_cases hi : i < l.length
    · obtain ⟨ys, g0, g1, g2, g3, g4, g5⟩ := rm_in h19 h0 h1 h2 h4 h3 hl hlen hi
      rw [g0, drop_cons l i [] hi, List.map_cons]
      rcases radd_err a (massOf (l.getD i [])) with hz | hz
      · rw [foldE_ok hz]
        rw [hz] at g4
        exact rm_sum h19 hl hlen k (i + 1) (j + 1) _ ys (by omega) (by omega) g1 g2 g3 g4 g5
      · rw [foldE_no (by omega)]
        cases k with
        | zero => omega
        | succ k =>
          simp only [runL]
          obtain ⟨zs, q0, q1, q2, q3⟩ := rm_out (F := F) (l := l) (i := i + 1) (a := (radd a (massOf (l.getD i []))).1) (e := 3) (.inr rfl) g1 g2 g3 (by rw [g4, hz]) g5 hl hlen (by omega) (.inr rfl)
          rw [q0]
          exact ⟨zs, rfl, q1, q2, by rw [q3, hz]⟩
    · obtain ⟨zs, q0, q1, q2, q3⟩ := rm_out (F := F) (l := l) (i := i) (a := a) (e := 0) (.inl rfl) h0 h1 h2 h4 h3 hl hlen (by omega) (.inl hi)
      rw [q0, List.drop_eq_nil_of_le (by omega)]
      exact ⟨zs, rfl, q1, q2, q3⟩
end Go.Proofs.Ytedfbamihjnhhaa.Own
