/- What all is together: what the loops make of the bodies. -/
import Derived.Test.YtedfbamihjnhhaaLo1
import Derived.Test.YtedfbamihjnhhaaFvO
namespace Go.Proofs.Ytedfbamihjnhhaa.Own
open Go Go.RowKit Go.Proofs Go.Proofs.Ytedfbamihjnhhaa.Plain
set_option linter.unusedVariables false
set_option linter.unusedSimpArgs false
set_option maxRecDepth 100000
theorem envOf_iv (F : Nat → List Int → List Int) (xs : List Int) (j : Nat) : (envOf F xs).iv j = xs.getD j 0 := rfl
theorem envOf_bv (F : Nat → List Int → List Int) (xs : List Int) (j : Nat) : (envOf F xs).bv j = (xs.getD j 0 != 0) := rfl
theorem envOf_F (F : Nat → List Int → List Int) (xs : List Int) (f i : Nat) (ys : List Int) : (envOf F xs).F f i ys = (F f ys).getD i 0 := rfl
theorem fxW_self (a : Fx) : fxW a.hi a.lo = a := by
  have h := fx_in a
  have e1 := fxW_hi h.1 h.2
  have e2 := fxW_lo (hi := a.hi) h.2
  exact Fx.n_ext (by unfold Fx.n; rw [e1, e2])
theorem w_hi (a : Fx) : IntKind.i64.wrap a.hi = a.hi := (fx_in a).1
theorem w_lo (a : Fx) : IntKind.u64.wrap a.lo = a.lo := (fx_in a).2
def massOf (el : List Int) : Fx := fxW (IntKind.i64.wrap (el.getD 0 0)) (IntKind.u64.wrap (el.getD 1 0))
def momOf (el : List Int) : Vx := ⟨fxW (IntKind.i64.wrap (el.getD 8 0)) (IntKind.u64.wrap (el.getD 9 0)), fxW (IntKind.i64.wrap (el.getD 10 0)) (IntKind.u64.wrap (el.getD 11 0))⟩
def foldE {α : Type} (f : α → α → α × Int) : α → List α → α × Int
  | a, [] => (a, 0)
  | a, m :: ms => if (f a m).2 = 0 then foldE f (f a m).1 ms else f a m
theorem foldE_ok {α : Type} {f : α → α → α × Int} {a m : α} {ms : List α} (h : (f a m).2 = 0) : foldE f a (m :: ms) = foldE f (f a m).1 ms := by simp only [foldE]; rw [if_pos h]
theorem foldE_no {α : Type} {f : α → α → α × Int} {a m : α} {ms : List α} (h : ¬ (f a m).2 = 0) : foldE f a (m :: ms) = f a m := by simp only [foldE]; rw [if_neg h]
theorem foldE_congr {α : Type} {f g : α → α → α × Int} {A : α → Prop} (h : ∀ a b, A a → A b → f a b = g a b) (h2 : ∀ a b, A a → A b → (g a b).2 = 0 → A (g a b).1) : ∀ (ms : List α) (a : α), A a → (∀ m ∈ ms, A m) → foldE f a ms = foldE g a ms
  | [], _, _, _ => rfl
  | m :: ms, a, ha, hm => by
    have hmm := hm m (.head _)
    simp only [foldE]
    rw [h a m ha hmm]
    split
    · rename_i h0; exact foldE_congr h h2 ms _ (h2 a m ha hmm h0) fun x hx => hm x (.tail _ hx)
    · rfl
theorem err64 {e : Int} (h : e = 0 ∨ e = 3) : IntKind.i64.wrap e = e := by rcases h with rfl | rfl <;> rfl
section
variable {F : Nat → List Int → List Int} {cur : List Int} {c : Int} {l : List (List Int)} {i : Nat}
/-- a round of all mass -/
theorem lm_in (h29 : F 29 = gFadd) {a : Fx} (h0 : cur.getD 0 0 = c) (h1 : cur.getD 1 0 = a.hi) (h2 : cur.getD 2 0 = a.lo) (h3 : cur.getD 3 0 = (i : Int)) (hl : dec c = l) (hlen : l.length ≤ maxLen) (hi : i < l.length) :
    lmT.get (envOf F cur) = if (fadd a (massOf (l.getD i []))).2 = 0 then (none, [c, (fadd a (massOf (l.getD i []))).1.hi, (fadd a (massOf (l.getD i []))).1.lo, ((i + 1 : Nat) : Int)]) else (some 0, [(fadd a (massOf (l.getD i []))).2]) := by
  have e3 : IntKind.i64.wrap (i : Int) = (i : Int) := i64_nat (by omega)
  have e4 : IntKind.i64.wrap ((i : Int) + 1) = ((i + 1 : Nat) : Int) := by rw [show (i : Int) + 1 = ((i + 1 : Nat) : Int) by omega]; exact i64_nat (by omega)
  have hlt : decide ((i : Int) < ((sat l.length : Nat) : Int)) = true := by rw [sat_of hlen]; exact decide_eq_true (by omega)
  have hget : ((i : Int)).toNat = i := by omega
  have w1 : IntKind.i64.wrap 1 = 1 := rfl
  have w0 : IntKind.i64.wrap 0 = 0 := rfl
  have hg : ∀ k, (F 29 [a.hi, a.lo, IntKind.i64.wrap ((l.getD i []).getD 0 0), IntKind.u64.wrap ((l.getD i []).getD 1 0)]).getD k 0 = [(fadd a (massOf (l.getD i []))).1.hi, (fadd a (massOf (l.getD i []))).1.lo, (fadd a (massOf (l.getD i []))).2].getD k 0 := fun k => by
    rw [h29]
    show (gFadd _).getD k 0 = _
    unfold gFadd massOf
    simp only [List.getD_cons_zero, List.getD_cons_succ, fxW_self]
  have he := err64 (fadd_err a (massOf (l.getD i [])))
  simp only [lmT, RT.get, SE.val, SE.vals, List.map, valCmp, valBin, b2i_ne, envOf_iv, envOf_F, h0, h1, h2, h3, hl, e3, e4, hlt, hget, w1, w0, w_hi, w_lo, wrK, hg, List.getD_cons_zero, List.getD_cons_succ, he, cond_true]
  by_cases hz : (fadd a (massOf (l.getD i []))).2 = 0
  · rw [if_pos hz, hz]; simp only [bne_self_eq_false, cond_false]
  · rw [if_neg hz]
    have : ((fadd a (massOf (l.getD i []))).2 != 0) = true := by simpa using hz
    rw [this, cond_true]
theorem lm_out {a : Fx} (h0 : cur.getD 0 0 = c) (h1 : cur.getD 1 0 = a.hi) (h2 : cur.getD 2 0 = a.lo) (h3 : cur.getD 3 0 = (i : Int)) (hl : dec c = l) (hlen : l.length ≤ maxLen) (hi : ¬ i < l.length) (hi2 : i ≤ l.length) : lmT.get (envOf F cur) = (some 1, [c, a.hi, a.lo]) := by
  have e3 : IntKind.i64.wrap (i : Int) = (i : Int) := i64_nat (by omega)
  have hlt : decide ((i : Int) < ((sat l.length : Nat) : Int)) = false := by rw [sat_of hlen]; exact decide_eq_false (by omega)
  simp only [lmT, RT.get, SE.val, SE.vals, List.map, valCmp, valBin, b2i_ne, envOf_iv, envOf_F, h0, h1, h2, h3, hl, e3, hlt, w_hi, w_lo, wrK, cond_false]
end
theorem drop_cons {α : Type} (l : List α) (i : Nat) (d : α) (h : i < l.length) : l.drop i = l.getD i d :: l.drop (i + 1) := by
  rw [List.drop_eq_getElem_cons h, List.getD_eq_getElem?_getD, List.getElem?_eq_getElem h]; rfl
theorem lm_sum {F : Nat → List Int → List Int} (h29 : F 29 = gFadd) {c : Int} {l : List (List Int)} (hl : dec c = l) (hlen : l.length ≤ maxLen) : ∀ (k i j : Nat) (a : Fx) (cur : List Int), i + k = l.length + 1 → 0 < k → cur.getD 0 0 = c → cur.getD 1 0 = a.hi → cur.getD 2 0 = a.lo → cur.getD 3 0 = (i : Int) →
    runL (fun _ => lmT) F j k cur = if (foldE fadd a ((l.drop i).map massOf)).2 = 0 then some (1, [c, (foldE fadd a ((l.drop i).map massOf)).1.hi, (foldE fadd a ((l.drop i).map massOf)).1.lo]) else some (0, [(foldE fadd a ((l.drop i).map massOf)).2])
  | 0, _, _, _, _, _, hk, _, _, _, _ => by omega
  | k + 1, i, j, a, cur, hik, _, h0, h1, h2, h3 => by
    simp only [runL]
    by_cases hi : i < l.length
    · rw [lm_in h29 h0 h1 h2 h3 hl hlen hi, drop_cons l i [] hi, List.map_cons]
      by_cases hz : (fadd a (massOf (l.getD i []))).2 = 0
      · rw [if_pos hz, foldE_ok hz]
        exact lm_sum h29 hl hlen k (i + 1) (j + 1) _ _ (by omega) (by omega) rfl rfl rfl rfl
      · rw [if_neg hz, foldE_no hz, if_neg hz]
    · rw [lm_out h0 h1 h2 h3 hl hlen hi (by omega), List.drop_eq_nil_of_le (by omega)]
      rfl
end Go.Proofs.Ytedfbamihjnhhaa.Own
