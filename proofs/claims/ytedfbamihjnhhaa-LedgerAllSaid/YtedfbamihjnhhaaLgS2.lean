/- What all is together: what the loops make of the bodies. -/
import Derived.Test.YtedfbamihjnhhaaLgS0
namespace Go.Proofs.Ytedfbamihjnhhaa.Own
open Go Go.RowKit Go.Proofs Go.Proofs.Ytedfbamihjnhhaa.Plain
set_option linter.unusedVariables false
set_option linter.unusedSimpArgs false
set_option maxRecDepth 100000
/-! ### all momenta -/
section
variable {F : Nat → List Int → List Int} {cur : List Int} {c : Int} {l : List (List Int)} {i : Nat}
theorem lp_in (h30 : F 30 = gVadd) {a : Vx} (h0 : cur.getD 0 0 = c) (h1 : cur.getD 1 0 = a.x.hi) (h2 : cur.getD 2 0 = a.x.lo) (h4 : cur.getD 3 0 = a.y.hi) (h5 : cur.getD 4 0 = a.y.lo) (h3 : cur.getD 5 0 = (i : Int)) (hl : dec c = l) (hlen : l.length ≤ maxLen) (hi : i < l.length) :
    lpT.get (envOf F cur) = if (vadd a (momOf (l.getD i []))).2 = 0 then (none, [c, (vadd a (momOf (l.getD i []))).1.x.hi, (vadd a (momOf (l.getD i []))).1.x.lo, (vadd a (momOf (l.getD i []))).1.y.hi, (vadd a (momOf (l.getD i []))).1.y.lo, ((i + 1 : Nat) : Int)]) else (some 0, [(vadd a (momOf (l.getD i []))).2]) := by
  have e3 : IntKind.i64.wrap (i : Int) = (i : Int) := i64_nat (by omega)
  have e4 : IntKind.i64.wrap ((i : Int) + 1) = ((i + 1 : Nat) : Int) := by rw [show (i : Int) + 1 = ((i + 1 : Nat) : Int) by omega]; exact i64_nat (by omega)
  have hlt : decide ((i : Int) < ((sat l.length : Nat) : Int)) = true := by rw [sat_of hlen]; exact decide_eq_true (by omega)
  have hget : ((i : Int)).toNat = i := by omega
  have w1 : IntKind.i64.wrap 1 = 1 := rfl
  have w0 : IntKind.i64.wrap 0 = 0 := rfl
  have hg : ∀ k, (F 30 [a.x.hi, a.x.lo, a.y.hi, a.y.lo, IntKind.i64.wrap ((l.getD i []).getD 8 0), IntKind.u64.wrap ((l.getD i []).getD 9 0), IntKind.i64.wrap ((l.getD i []).getD 10 0), IntKind.u64.wrap ((l.getD i []).getD 11 0)]).getD k 0 = [(vadd a (momOf (l.getD i []))).1.x.hi, (vadd a (momOf (l.getD i []))).1.x.lo, (vadd a (momOf (l.getD i []))).1.y.hi, (vadd a (momOf (l.getD i []))).1.y.lo, (vadd a (momOf (l.getD i []))).2].getD k 0 := fun k => by
    rw [h30]
    show (gVadd _).getD k 0 = _
    unfold gVadd momOf
    simp only [List.getD_cons_zero, List.getD_cons_succ, fxW_self]
  have he := err64 (vadd_err a (momOf (l.getD i [])))
  simp only [lpT, RT.get, SE.val, SE.vals, List.map, valCmp, valBin, b2i_ne, envOf_iv, envOf_F, h0, h1, h2, h3, h4, h5, hl, e3, e4, hlt, hget, w1, w0, w_hi, w_lo, wrK, hg, List.getD_cons_zero, List.getD_cons_succ, he, cond_true]
  by_cases hz : (vadd a (momOf (l.getD i []))).2 = 0
  · rw [if_pos hz, hz]; simp only [bne_self_eq_false, cond_false]
  · rw [if_neg hz]
    have : ((vadd a (momOf (l.getD i []))).2 != 0) = true := by simpa using hz
    rw [this, cond_true]
theorem lp_out {a : Vx} (h0 : cur.getD 0 0 = c) (h1 : cur.getD 1 0 = a.x.hi) (h2 : cur.getD 2 0 = a.x.lo) (h4 : cur.getD 3 0 = a.y.hi) (h5 : cur.getD 4 0 = a.y.lo) (h3 : cur.getD 5 0 = (i : Int)) (hl : dec c = l) (hlen : l.length ≤ maxLen) (hi : ¬ i < l.length) (hi2 : i ≤ l.length) : lpT.get (envOf F cur) = (some 1, [c, a.x.hi, a.x.lo, a.y.hi, a.y.lo]) := by
  have e3 : IntKind.i64.wrap (i : Int) = (i : Int) := i64_nat (by omega)
  have hlt : decide ((i : Int) < ((sat l.length : Nat) : Int)) = false := by rw [sat_of hlen]; exact decide_eq_false (by omega)
  simp only [lpT, RT.get, SE.val, SE.vals, List.map, valCmp, valBin, b2i_ne, envOf_iv, envOf_F, h0, h1, h2, h3, h4, h5, hl, e3, hlt, w_hi, w_lo, wrK, cond_false]
end
theorem lp_sum {F : Nat → List Int → List Int} (h30 : F 30 = gVadd) {c : Int} {l : List (List Int)} (hl : dec c = l) (hlen : l.length ≤ maxLen) : ∀ (k i j : Nat) (a : Vx) (cur : List Int), i + k = l.length + 1 → 0 < k → cur.getD 0 0 = c → cur.getD 1 0 = a.x.hi → cur.getD 2 0 = a.x.lo → cur.getD 3 0 = a.y.hi → cur.getD 4 0 = a.y.lo → cur.getD 5 0 = (i : Int) →
    runL (fun _ => lpT) F j k cur = if (foldE vadd a ((l.drop i).map momOf)).2 = 0 then some (1, [c, (foldE vadd a ((l.drop i).map momOf)).1.x.hi, (foldE vadd a ((l.drop i).map momOf)).1.x.lo, (foldE vadd a ((l.drop i).map momOf)).1.y.hi, (foldE vadd a ((l.drop i).map momOf)).1.y.lo]) else some (0, [(foldE vadd a ((l.drop i).map momOf)).2])
  | 0, _, _, _, _, _, hk, _, _, _, _, _, _ => by omega
  | k + 1, i, j, a, cur, hik, _, h0, h1, h2, h4, h5, h3 => by
    simp only [runL]
    by_cases hi : i < l.length
    · rw [lp_in h30 h0 h1 h2 h4 h5 h3 hl hlen hi, drop_cons l i [] hi, List.map_cons]
      by_cases hz : (vadd a (momOf (l.getD i []))).2 = 0
      · rw [if_pos hz, foldE_ok hz]
        exact lp_sum h30 hl hlen k (i + 1) (j + 1) _ _ (by omega) (by omega) rfl rfl rfl rfl rfl rfl
      · rw [if_neg hz, foldE_no hz, if_neg hz]
    · rw [lp_out h0 h1 h2 h4 h5 h3 hl hlen hi (by omega), List.drop_eq_nil_of_le (by omega)]
      rfl
end Go.Proofs.Ytedfbamihjnhhaa.Own
