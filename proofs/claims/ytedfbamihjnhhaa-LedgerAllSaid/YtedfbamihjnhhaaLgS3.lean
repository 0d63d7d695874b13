/- What all is together: what the loops make of the bodies. -/
import Derived.Test.YtedfbamihjnhhaaLgS0
namespace Go.Proofs.Ytedfbamihjnhhaa.Own
open Go Go.RowKit Go.Proofs Go.Proofs.Ytedfbamihjnhhaa.Plain
set_option linter.unusedVariables false
set_option linter.unusedSimpArgs false
set_option maxRecDepth 100000
/-! ### the document's momenta -/
def rvadd (a b : Vx) : Vx × Int := if (radd a.x b.x).2 = 0 then if (radd a.y b.y).2 = 0 then (⟨(radd a.x b.x).1, (radd a.y b.y).1⟩, 0) else (⟨.zero, .zero⟩, (radd a.y b.y).2) else (⟨.zero, .zero⟩, (radd a.x b.x).2)
theorem rvadd_err (a b : Vx) : (rvadd a b).2 = 0 ∨ (rvadd a b).2 = 3 := by
  unfold rvadd
  split
  · split
    · exact .inl rfl
    · exact radd_err _ _
  · exact radd_err _ _
def rvl (a b : Vx) : List Int := [(rvadd a b).1.x.hi, (rvadd a b).1.x.lo, (rvadd a b).1.y.hi, (rvadd a b).1.y.lo, (rvadd a b).2]
section
variable {F : Nat → List Int → List Int} {cur : List Int} {c : Int} {l : List (List Int)} {i : Nat}
theorem rp_in (h20 : ∀ a b : Vx, F 20 [a.x.hi, a.x.lo, a.y.hi, a.y.lo, b.x.hi, b.x.lo, b.y.hi, b.y.lo] = rvl a b) {a : Vx} (h0 : cur.getD 13 0 = c) (h1 : cur.getD 24 0 = a.x.hi) (h2 : cur.getD 25 0 = a.x.lo) (h5 : cur.getD 26 0 = a.y.hi) (h6 : cur.getD 27 0 = a.y.lo) (h4 : cur.getD 28 0 = 0) (h3 : cur.getD 29 0 = (i : Int)) (hl : dec c = l) (hlen : l.length ≤ maxLen) (hi : i < l.length) :
    ∃ ys, rpT.get (envOf F cur) = (none, ys) ∧ ys.getD 13 0 = c ∧ ys.getD 24 0 = (rvadd a (momOf (l.getD i []))).1.x.hi ∧ ys.getD 25 0 = (rvadd a (momOf (l.getD i []))).1.x.lo ∧ ys.getD 26 0 = (rvadd a (momOf (l.getD i []))).1.y.hi ∧ ys.getD 27 0 = (rvadd a (momOf (l.getD i []))).1.y.lo ∧ ys.getD 28 0 = (rvadd a (momOf (l.getD i []))).2 ∧ ys.getD 29 0 = ((i + 1 : Nat) : Int) := by
  have e3 : IntKind.i64.wrap (i : Int) = (i : Int) := i64_nat (by omega)
  have e4 : IntKind.i64.wrap ((i : Int) + 1) = ((i + 1 : Nat) : Int) := by rw [show (i : Int) + 1 = ((i + 1 : Nat) : Int) by omega]; exact i64_nat (by omega)
  have hlt : decide ((i : Int) < ((sat l.length : Nat) : Int)) = true := by rw [sat_of hlen]; exact decide_eq_true (by omega)
  have hget : ((i : Int)).toNat = i := by omega
  have w1 : IntKind.i64.wrap 1 = 1 := rfl
  have w0 : IntKind.i64.wrap 0 = 0 := rfl
  have hg : ∀ k, (F 20 [a.x.hi, a.x.lo, a.y.hi, a.y.lo, IntKind.i64.wrap ((l.getD i []).getD 8 0), IntKind.u64.wrap ((l.getD i []).getD 9 0), IntKind.i64.wrap ((l.getD i []).getD 10 0), IntKind.u64.wrap ((l.getD i []).getD 11 0)]).getD k 0 = (rvl a (momOf (l.getD i []))).getD k 0 := fun k => by
    rw [← h20]
    unfold momOf
    simp only [fxW_hi (wrap_wrap .i64 _) (wrap_wrap .u64 _), fxW_lo (wrap_wrap .u64 _)]
  have he := err64 (rvadd_err a (momOf (l.getD i [])))
  have hz : ((0 : Int) == 0) = true := rfl
  simp only [rpT, RT.get, SE.val, SE.vals, List.map, valCmp, valBin, b2i_ne, envOf_iv, envOf_F, h0, h1, h2, h3, h4, h5, h6, hl, e3, e4, hlt, hget, w1, w0, w_hi, w_lo, wrK, hg, rvl, List.getD_cons_zero, List.getD_cons_succ, he, hz, cond_true]
  exact ⟨_, rfl, rfl, rfl, rfl, rfl, rfl, rfl, rfl⟩
theorem rp_out {a : Vx} {e : Int} (he : e = 0 ∨ e = 3) (h0 : cur.getD 13 0 = c) (h1 : cur.getD 24 0 = a.x.hi) (h2 : cur.getD 25 0 = a.x.lo) (h5 : cur.getD 26 0 = a.y.hi) (h6 : cur.getD 27 0 = a.y.lo) (h4 : cur.getD 28 0 = e) (h3 : cur.getD 29 0 = (i : Int)) (hl : dec c = l) (hlen : l.length ≤ maxLen) (hi2 : i ≤ l.length) (hi : ¬ i < l.length ∨ e = 3) :
    ∃ ys, rpT.get (envOf F cur) = (some 0, ys) ∧ ys.getD 24 0 = a.x.hi ∧ ys.getD 25 0 = a.x.lo ∧ ys.getD 26 0 = a.y.hi ∧ ys.getD 27 0 = a.y.lo ∧ ys.getD 28 0 = e := by
  have e3 : IntKind.i64.wrap (i : Int) = (i : Int) := i64_nat (by omega)
  have w0 : IntKind.i64.wrap 0 = 0 := rfl
  have he' := err64 he
  by_cases hb : i < l.length
  · have hlt : decide ((i : Int) < ((sat l.length : Nat) : Int)) = true := by rw [sat_of hlen]; exact decide_eq_true (by omega)
    have h33 : e = 3 := by rcases hi with hi | hi; exact absurd hb hi; exact hi
    subst h33
    have hz : ((3 : Int) == 0) = false := rfl
    simp only [rpT, RT.get, SE.val, SE.vals, List.map, valCmp, valBin, b2i_ne, envOf_iv, envOf_F, h0, h1, h2, h3, h4, h5, h6, hl, e3, hlt, w0, w_hi, w_lo, wrK, he', hz, cond_true, cond_false]
    exact ⟨_, rfl, rfl, rfl, rfl, rfl, rfl⟩
  · have hlt : decide ((i : Int) < ((sat l.length : Nat) : Int)) = false := by rw [sat_of hlen]; exact decide_eq_false (by omega)
    simp only [rpT, RT.get, SE.val, SE.vals, List.map, valCmp, valBin, b2i_ne, envOf_iv, envOf_F, h0, h1, h2, h3, h4, h5, h6, hl, e3, hlt, w0, w_hi, w_lo, wrK, he', cond_true, cond_false]
    exact ⟨_, rfl, rfl, rfl, rfl, rfl, rfl⟩
end
theorem rp_sum {F : Nat → List Int → List Int} (h20 : ∀ a b : Vx, F 20 [a.x.hi, a.x.lo, a.y.hi, a.y.lo, b.x.hi, b.x.lo, b.y.hi, b.y.lo] = rvl a b) {c : Int} {l : List (List Int)} (hl : dec c = l) (hlen : l.length ≤ maxLen) : ∀ (k i j : Nat) (a : Vx) (cur : List Int), i + k = l.length + 1 → 0 < k → cur.getD 13 0 = c → cur.getD 24 0 = a.x.hi → cur.getD 25 0 = a.x.lo → cur.getD 26 0 = a.y.hi → cur.getD 27 0 = a.y.lo → cur.getD 28 0 = 0 → cur.getD 29 0 = (i : Int) →
    ∃ ys, runL (fun _ => rpT) F j k cur = some (0, ys) ∧ ys.getD 24 0 = (foldE rvadd a ((l.drop i).map momOf)).1.x.hi ∧ ys.getD 25 0 = (foldE rvadd a ((l.drop i).map momOf)).1.x.lo ∧ ys.getD 26 0 = (foldE rvadd a ((l.drop i).map momOf)).1.y.hi ∧ ys.getD 27 0 = (foldE rvadd a ((l.drop i).map momOf)).1.y.lo ∧ ys.getD 28 0 = (foldE rvadd a ((l.drop i).map momOf)).2
  | 0, _, _, _, _, _, hk, _, _, _, _, _, _, _ => by omega
  | k + 1, i, j, a, cur, hik, _, h0, h1, h2, h5, h6, h4, h3 => by
    simp only [runL]
    by_cases hi : i < l.length
    · obtain ⟨ys, g0, g1, g2, g3, g4, g5, g6, g7⟩ := rp_in h20 h0 h1 h2 h5 h6 h4 h3 hl hlen hi
      rw [g0, drop_cons l i [] hi, List.map_cons]
      rcases rvadd_err a (momOf (l.getD i [])) with hz | hz
      · rw [foldE_ok hz]
        rw [hz] at g6
        exact rp_sum h20 hl hlen k (i + 1) (j + 1) _ ys (by omega) (by omega) g1 g2 g3 g4 g5 g6 g7
      · rw [foldE_no (by omega)]
        cases k with
        | zero => omega
        | succ k =>
          simp only [runL]
          obtain ⟨zs, q0, q1, q2, q3, q4, q5⟩ := rp_out (F := F) (l := l) (i := i + 1) (a := (rvadd a (momOf (l.getD i []))).1) (e := 3) (.inr rfl) g1 g2 g3 g4 g5 (by rw [g6, hz]) g7 hl hlen (by omega) (.inr rfl)
          rw [q0]
          exact ⟨zs, rfl, q1, q2, q3, q4, by rw [q5, hz]⟩
    · obtain ⟨zs, q0, q1, q2, q3, q4, q5⟩ := rp_out (F := F) (l := l) (i := i) (a := a) (e := 0) (.inl rfl) h0 h1 h2 h5 h6 h4 h3 hl hlen (by omega) (.inl hi)
      rw [q0, List.drop_eq_nil_of_le (by omega)]
      exact ⟨zs, rfl, q1, q2, q3, q4, q5⟩
end Go.Proofs.Ytedfbamihjnhhaa.Own
