/- A world made: rails and tethers that may be. -/
/- A world turned: what is known of a body that is not as it was. -/
/- A world made: loops that find nothing. -/
import Derived.Test.YtedfbamihjnhhaaWmE
import Derived.Test.YtedfbamihjnhhaaWmB
import Derived.Test.YtedfbamihjnhhaaWtF
section
namespace Go.Proofs.Ytedfbamihjnhhaa.Own
open Go Go.RowKit Go.Proofs Go.Proofs.Ytedfbamihjnhhaa.Plain
set_option linter.unusedVariables false
set_option linter.unusedSectionVars false
set_option linter.unusedSimpArgs false
set_option maxRecDepth 100000
def inI (x a b : Int) : Bool := decide (a ≤ x) && decide (x ≤ b)
def mayR (zs : List Int) : Bool :=
 decide (-1 ≤ zs.getD 0 0) && (decide (zs.getD 0 0 < zs.getD 10 0) && (inI (zs.getD 5 0) 0 65535 && (inI (zs.getD 6 0) 0 65535 && (inI (zs.getD 7 0) 1 1073741824 && (inF (zs.getD 1 0) (zs.getD 2 0) 0 (nn 268435456 0) &&
 (inF (zs.getD 3 0) (zs.getD 4 0) 0 (nn 0 17293822569102704640) && inF (zs.getD 8 0) (zs.getD 9 0) 0 (nn 1073741824 0)))))))
def kR (j : Nat) : IntKind := if j = 2 ∨ j = 4 ∨ j = 9 then .u64 else .i64
def RaIn (zs : List Int) : Prop := ∀ j, j < 11 → inK (some (kR j)) (zs.getD j 0)
section
variable {zs : List Int} (h : RaIn zs)
include h
theorem ri (j : Nat) (hj : j < 11) (hk : kR j = .i64) : inK (some .i64) (zs.getD j 0) := by have := h j hj; rwa [hk] at this
theorem ru (j : Nat) (hj : j < 11) (hk : kR j = .u64) : inK (some .u64) (zs.getD j 0) := by have := h j hj; rwa [hk] at this
theorem rv_i {F : Nat → List Int → List Int} (j : Nat) (hj : j < 11) (hk : kR j = .i64) : (SE.ivar .i64 j).val (envOf F zs) = zs.getD j 0 := by
 rw [iu_at]; exact ri h j hj hk
theorem rv_u {F : Nat → List Int → List Int} (j : Nat) (hj : j < 11) (hk : kR j = .u64) : (SE.ivar .u64 j).val (envOf F zs) = zs.getD j 0 := by
 rw [iu_at]; exact ru h j hj hk
theorem f42n : FT Tr5_T42 42 zs = [b2i (mayR zs)] := by
 have g : FT Tr5_T42 42 = treeFn tr42 (FT Tr5_T76) := FT_hd (Tb := Tr5_T42) rfl rfl
 have e77 : FT Tr5_T76 77 = FT Tr5_T77 77 := FT_at 3 (by kernel_rfl) (by kernel_rfl)
 have e75 : FT Tr5_T76 75 = FT Tr5_T75 75 := FT_at 2 (by kernel_rfl) (by kernel_rfl)
 have e51 : FT Tr5_T76 51 = FT Tr5_T51 51 := FT_at 1 (by kernel_rfl) (by kernel_rfl)
 have m1 : IntKind.i64.wrap (-1) = -1 := rfl
 rw [g]; unfold tr42
 refine tf_y ?_ fun _ => tf_y ?_ fun _ => tf_y (ap_y ?_) fun _ => tf_y (ap_y ?_) fun _ => tf_y (ap_y ?_) fun _ => tf_y (ap_y ?_) fun _ => tf_y (ap_y ?_) fun _ => tf_1 (ap_b ?_)
 ·rw [v_cmp, rv_i h 0 (by decide) rfl, v_lit, m1]; rfl
 ·rw [v_cmp, rv_i h 0 (by decide) rfl, rv_i h 10 (by decide) rfl]; rfl
 ·simp only [vals_c, vals_n]
  rw [rv_i h 5 (by decide) rfl, v_lit, v_lit, e51]
  exact f51n (ri h 5 (by decide) rfl) rfl rfl
 ·simp only [vals_c, vals_n]
  rw [rv_i h 6 (by decide) rfl, v_lit, v_lit, e51]
  exact f51n (ri h 6 (by decide) rfl) rfl rfl
 ·simp only [vals_c, vals_n]
  rw [rv_i h 7 (by decide) rfl, v_lit, v_lit, e51]
  exact f51n (ri h 7 (by decide) rfl) rfl rfl
 ·simp only [vals_c, vals_n]
  rw [rv_i h 1 (by decide) rfl, rv_u h 2 (by decide) rfl, v_lit, e75]
  exact f75n (ri h 1 (by decide) rfl) (ru h 2 (by decide) rfl) ⟨by decide, by decide⟩
 ·simp only [vals_c, vals_n]
  rw [rv_i h 3 (by decide) rfl, rv_u h 4 (by decide) rfl, v_lit, v_lit, v_lit, e77]
  exact f77n (ri h 3 (by decide) rfl) (ru h 4 (by decide) rfl) rfl rfl rfl rfl
 ·simp only [vals_c, vals_n]
  rw [rv_i h 8 (by decide) rfl, rv_u h 9 (by decide) rfl, v_lit, e75]
  exact f75n (ri h 8 (by decide) rfl) (ru h 9 (by decide) rfl) ⟨by decide, by decide⟩
end
def wrR (el : List Int) (i : Int) : List Int := [(kR 0).wrap (el.getD 0 0), (kR 1).wrap (el.getD 1 0), (kR 2).wrap (el.getD 2 0), (kR 3).wrap (el.getD 3 0), (kR 4).wrap (el.getD 4 0), (kR 5).wrap (el.getD 5 0), (kR 6).wrap (el.getD 6 0), (kR 7).wrap (el.getD 7 0), (kR 8).wrap (el.getD 8 0), (kR 9).wrap (el.getD 9 0), i]
theorem wrR_in (el : List Int) {i : Int} (hi : inK (some .i64) i) : RaIn (wrR el i) := fun j hj => by
 match j, hj with
 | 0, _ | 1, _ | 2, _ | 3, _ | 4, _ | 5, _ | 6, _ | 7, _ | 8, _ | 9, _ => exact wrap_wrap _ _
 | 10, _ => exact hi
 | (n + 11), hn => omega
theorem mayR_ok {el : List Int} {j : Nat} (hj : j < 1000) {F : Nat → List Int → List Int} (hF : F 22 = FT Tr5_T22 22) (h : isRa F j el) : mayR (wrR el (j : Int)) = true := by
 obtain ⟨b0, b1, b2, b3, h0, h1, h2, h3, rfl⟩ := h
 rw [hF, f22b (n := 1 + b1) ⟨by omega, by omega⟩, f22b (n := b3) ⟨by omega, by omega⟩]
 have m0 := Int.emod_lt_of_pos b0 (show (0 : Int) < (j : Int) + 1 by omega)
 have m1 := Int.emod_nonneg b0 (show (j : Int) + 1 ≠ 0 by omega)
 have wi : ∀ v : Int, -1000000000 ≤ v ∧ v ≤ 1000000000 → IntKind.i64.wrap v = v := fun v h => by rw [IntKind.wrap_i64]; omega
 generalize b0 % ((j : Int) + 1) = p at *
 have e1 : wrK (some .i64) (([1 + b1, 0] : List Int).getD 0 0) = 1 + b1 := by show IntKind.i64.wrap (1 + b1) = _; exact wi _ (by omega)
 have e3 : wrK (some .i64) (([b3, 0] : List Int).getD 0 0) = b3 := by show IntKind.i64.wrap b3 = _; exact wi _ (by omega)
 have e2 : wrK (some .u64) (([1 + b1, 0] : List Int).getD 1 0) = 0 := rfl
 have e4 : wrK (some .u64) (([b3, 0] : List Int).getD 1 0) = 0 := rfl
 rw [e1, e2, e3, e4]
 have q : wrR [p - 1, 1 + b1, 0, 0, b2 % 15 * 1152921504606846976 % 18446744073709551616, b3 * 257, b0 * 200, 1 + b1 * 7 + b2, b3, 0] (j : Int) = [p - 1, 1 + b1, 0, 0, b2 % 15 * 1152921504606846976, b3 * 257, b0 * 200, 1 + b1 * 7 + b2, b3, 0, (j : Int)] := by
  have a0 : IntKind.i64.wrap (p - 1) = p - 1 := wi _ (by omega)
  have a1 : IntKind.i64.wrap (1 + b1) = 1 + b1 := wi _ (by omega)
  have a4 : IntKind.u64.wrap (b2 % 15 * 1152921504606846976 % 18446744073709551616) = b2 % 15 * 1152921504606846976 := by rw [IntKind.wrap_u64]; omega
  have a5 : IntKind.i64.wrap (b3 * 257) = b3 * 257 := wi _ (by omega)
  have a6 : IntKind.i64.wrap (b0 * 200) = b0 * 200 := wi _ (by omega)
  have a7 : IntKind.i64.wrap (1 + b1 * 7 + b2) = 1 + b1 * 7 + b2 := wi _ (by omega)
  have a8 : IntKind.i64.wrap b3 = b3 := wi _ (by omega)
  show [IntKind.i64.wrap (p - 1), IntKind.i64.wrap (1 + b1), IntKind.u64.wrap 0, IntKind.i64.wrap 0, IntKind.u64.wrap (b2 % 15 * 1152921504606846976 % 18446744073709551616), IntKind.i64.wrap (b3 * 257), IntKind.i64.wrap (b0 * 200), IntKind.i64.wrap (1 + b1 * 7 + b2), IntKind.i64.wrap b3, IntKind.u64.wrap 0, (j : Int)] = _
  rw [a0, a1, a4, a5, a6, a7, a8]; rfl
 rw [q]
 have ii : ∀ x a b : Int, a ≤ x → x ≤ b → inI x a b = true := fun x a b h1 h2 => by unfold inI; rw [decide_eq_true h1, decide_eq_true h2]; rfl
 unfold mayR
 simp only [List.getD_cons_zero, List.getD_cons_succ]
 rw [decide_eq_true (show -1 ≤ p - 1 by omega), decide_eq_true (show p - 1 < (j : Int) by omega), ii (b3 * 257) 0 65535 (by omega) (by omega), ii (b0 * 200) 0 65535 (by omega) (by omega), ii (1 + b1 * 7 + b2) 1 1073741824 (by omega) (by omega)]
 rw [inF_ok (a := 1 + b1) (b := 0) (by omega) (by unfold nn; omega) (by unfold nn; omega)]
 rw [inF_ok (a := 0) (b := b2 % 15 * 1152921504606846976) (by omega) (by unfold nn; omega) (by unfold nn; omega)]
 rw [inF_ok (a := b3) (b := 0) (by omega) (by unfold nn; omega) (by unfold nn; omega)]
 rfl
end Go.Proofs.Ytedfbamihjnhhaa.Own
end
section
namespace Go.Proofs.Ytedfbamihjnhhaa.Own
open Go Go.RowKit Go.Proofs Go.Proofs.Ytedfbamihjnhhaa.Plain
set_option linter.unusedVariables false
set_option linter.unusedSimpArgs false
set_option linter.unusedSectionVars false
set_option maxRecDepth 100000
section
variable {xs : List Int} (hl : WtLen xs) (h0 : 0 < (dec (wtL0.val (wtEnv xs))).length) {B : SE} (hB : (dec (B.val (wtEnv xs))).length = (dec (wtL0.val (wtEnv xs))).length) (hr : BdR ((dec (B.val (wtEnv xs))).getD (wtPl xs) []))
include hl h0 hB hr
end
section
variable {xs : List Int} (hl : WtLen xs) (h0 : 0 < (dec (wtL0.val (wtEnv xs))).length)
include hl h0
end
end Go.Proofs.Ytedfbamihjnhhaa.Own
end
section
namespace Go.Proofs.Ytedfbamihjnhhaa.Own
open Go Go.RowKit Go.Proofs Go.Proofs.Ytedfbamihjnhhaa.Plain
set_option linter.unusedVariables false
set_option linter.unusedSectionVars false
set_option linter.unusedSimpArgs false
set_option maxRecDepth 100000
theorem range_good {T : RT} {c lv : Nat} {ex : List (SE × Bool)} (h : rgB c lv ex false T = true) {F : Nat → List Int → List Int} (J : List Int → Prop) (hJ : ∀ xs ys, J xs → T.get (envOf F xs) = (none, ys) → J ys)
  (good : ∀ xs (i : Nat), J xs → xs.getD c 0 = (i : Int) → i ≤ (dec (xs.getD lv 0)).length → ∀ e ys, T.get (envOf F xs) = (some e, ys) → e = 1) :
  ∀ (k i j : Nat) (xs : List Int), xs.getD c 0 = (i : Int) → i + k = (dec (xs.getD lv 0)).length + 1 → 0 < k → (dec (xs.getD lv 0)).length ≤ maxLen → J xs → ∃ ys, runL (fun _ => T) F j k xs = some (1, ys)
 | 0, _, _, _, _, _, hk, _, _ => by omega
 | k + 1, i, j, xs, hc, hik, _, hl, hj => by
  have hi : i ≤ (dec (xs.getD lv 0)).length := by omega
  cases hg : T.get (envOf F xs) with
  | mk o ys =>
   cases o with
   | some e =>
    have := good xs i hj hc hi e ys hg
    subst this
    exact ⟨ys, by simp only [runL, hg]⟩
   | none =>
    obtain ⟨h1, h2, h3⟩ := rg_next hc hl hi h (fun q => by cases q) ys hg
    obtain ⟨zs, hz⟩ := range_good h J hJ good k (i + 1) (j + 1) ys h2 (by rw [h3]; omega) (by omega) (by rw [h3]; exact hl) (hJ xs ys hj hg)
    exact ⟨zs, by simp only [runL, hg]; exact hz⟩
theorem lp_good {I : List SE} {T : RT} {U : List Int → Nat} {F : Nat → List Int → List Int} {xs : List Int} (h : ∃ ys, runL (fun _ => T) F 0 (U xs) (I.map (SE.val (envOf F xs))) = some (1, ys)) : ∃ ys, lpFn I (fun _ => T) U F xs = 1 :: ys := by
 obtain ⟨ys, h⟩ := h
 exact ⟨ys, by unfold lpFn; rw [h]; rfl⟩
def elB (lv c : Nat) : SE := (.cons (.el (some .i64) (.lvar lv) (.ivar .i64 c) 0) (.cons (.el (some .u64) (.lvar lv) (.ivar .i64 c) 1) (.cons (.el (some .i64) (.lvar lv) (.ivar .i64 c) 2) (.cons (.el (some .u64) (.lvar lv) (.ivar .i64 c) 3) (.cons (.el (some .i64) (.lvar lv) (.ivar .i64 c) 4) (.cons (.el (some .u64) (.lvar lv) (.ivar .i64 c) 5) (.cons (.el (some .i64) (.lvar lv) (.ivar .i64 c) 6) (.cons (.el (some .u64) (.lvar lv) (.ivar .i64 c) 7) (.cons (.el (some .i64) (.lvar lv) (.ivar .i64 c) 8) (.cons (.el (some .u64) (.lvar lv) (.ivar .i64 c) 9) (.cons (.el (some .i64) (.lvar lv) (.ivar .i64 c) 10) (.cons (.el (some .u64) (.lvar lv) (.ivar .i64 c) 11) (.cons (.el (some .i64) (.lvar lv) (.ivar .i64 c) 12) (.cons (.el (some .u64) (.lvar lv) (.ivar .i64 c) 13) (.cons (.el (some .i64) (.lvar lv) (.ivar .i64 c) 14) (.cons (.el (some .u64) (.lvar lv) (.ivar .i64 c) 15) (.cons (.el (some .i64) (.lvar lv) (.ivar .i64 c) 16) (.cons (.el (some .u64) (.lvar lv) (.ivar .i64 c) 17) (.cons (.el (some .i64) (.lvar lv) (.ivar .i64 c) 18) (.cons (.el (some .i64) (.lvar lv) (.ivar .i64 c) 19) .nil))))))))))))))))))))
def elR (lv c : Nat) : SE := (.cons (.el (some .i64) (.lvar lv) (.ivar .i64 c) 0) (.cons (.el (some .i64) (.lvar lv) (.ivar .i64 c) 1) (.cons (.el (some .u64) (.lvar lv) (.ivar .i64 c) 2) (.cons (.el (some .i64) (.lvar lv) (.ivar .i64 c) 3) (.cons (.el (some .u64) (.lvar lv) (.ivar .i64 c) 4) (.cons (.el (some .i64) (.lvar lv) (.ivar .i64 c) 5) (.cons (.el (some .i64) (.lvar lv) (.ivar .i64 c) 6) (.cons (.el (some .i64) (.lvar lv) (.ivar .i64 c) 7) (.cons (.el (some .i64) (.lvar lv) (.ivar .i64 c) 8) (.cons (.el (some .u64) (.lvar lv) (.ivar .i64 c) 9) (.cons (.ivar .i64 c) .nil)))))))))))
section
variable {F : Nat → List Int → List Int} {xs : List Int} {lv c i : Nat} (hc : xs.getD c 0 = (i : Int)) (hi : i ≤ 1000000)
include hc hi
theorem el_x {k : Option IntKind} {j : Nat} : (SE.el k (.lvar lv) (.ivar .i64 c) j).val (envOf F xs) = wrK k (((dec (xs.getD lv 0)).getD i []).getD j 0) := by
 rw [el_v (t := i) (iv_at hc (by omega)), lvar_at]
theorem elB_v : (elB lv c).vals (envOf F xs) = wr ((dec (xs.getD lv 0)).getD i []) := by
 unfold elB
 simp only [vals_c, vals_n, el_x hc hi]
 rfl
theorem elR_v : (elR lv c).vals (envOf F xs) = wrR ((dec (xs.getD lv 0)).getD i []) (i : Int) := by
 unfold elR
 simp only [vals_c, vals_n, el_x hc hi, iv_at hc (show i ≤ 1000000000000000000 by omega)]
 rfl
theorem guard_x (hl : (dec (xs.getD lv 0)).length ≤ 1000000) : ((SE.cmp .lss (.ivar .i64 c) (.len (.lvar lv))).val (envOf F xs) != 0) = decide (i < (dec (xs.getD lv 0)).length) :=
 lss_at (iv_at hc (by omega)) (len_at rfl (le_max hl))
end
/-! rails -/
theorem mr_all (F : Nat → List Int → List Int) (a : Int) (hn : (dec a).length ≤ 1000000) (hq : ∀ i, i < (dec a).length → F 42 (wrR ((dec a).getD i []) (i : Int)) = [1]) : ∃ ys, mrG F [a] = 1 :: ys := by
 have hQ : rtQ mrT = .not (.app 42 0 none (elR 0 1)) := rfl
 refine lp_good (range_good (T := mrT) (c := 1) (lv := 0) (ex := []) (by kernel_rfl) (fun xs => xs.getD 0 0 = a) (fun xs ys hJ hy => ?_) (fun xs i hJ hc hi e ys hg => ?_) _ 0 0 _ (at_lit (I := mrI) (by kernel_rfl)) (by rw [at_lvar (I := mrI) (j0 := 0) (by kernel_rfl)]; unfold mrU; omega) (Nat.succ_pos _) (by rw [at_lvar (I := mrI) (j0 := 0) (by kernel_rfl)]; exact le_max hn) (at_lvar (I := mrI) (c := 0) (j0 := 0) (by kernel_rfl)))
 ·have hB := (cB_get (hc := mrC) (outs := mrL.outs) (F := F) (xs := xs) (t := mrT) (by kernel_rfl)).1 ys hy
  have h0 : ys.getD 0 0 = xs.getD 0 0 := hB (0, 0, none) (by simp [mrC])
  exact h0.trans hJ
 ·have hJ : xs.getD 0 0 = a := hJ
  rw [hJ] at hi
  have him : i ≤ 1000000 := by omega
  rw [mr_get, guard_x hc him (by rw [hJ]; exact hn), hJ, hQ] at hg
  by_cases hlt : i < (dec a).length
  ·rw [decide_eq_true hlt, cond_true, ap_n (b := true) (by rw [elR_v hc him, hJ]; exact hq i hlt), Bool.not_true, cond_false] at hg
   cases hg
  ·rw [decide_eq_false hlt, cond_false] at hg
   cases hg; rfl
/-! bodies -/
theorem ib2_all (F : Nat → List Int → List Int) (l b : Int) (hn : (dec l).length ≤ 1000000) (hq : ∀ i, i < (dec l).length → F 44 (wr ((dec b).getD i [])) = [0]) : ∃ ys, ib2G F [l, b] = 1 :: ys := by
 have hQ : rtQ ib2T = .app 44 0 none (elB 1 2) := rfl
 refine lp_good (range_good (T := ib2T) (c := 2) (lv := 0) (ex := ib2E) (by kernel_rfl) (fun xs => xs.getD 0 0 = l ∧ xs.getD 1 0 = b) (fun xs ys hJ hy => ?_) (fun xs i hJ hc hi e ys hg => ?_) _ 0 0 _ (at_lit (I := ib2I) (by kernel_rfl)) (by rw [at_lvar (I := ib2I) (j0 := 0) (by kernel_rfl)]; unfold ib2U; omega) (Nat.succ_pos _) (by rw [at_lvar (I := ib2I) (j0 := 0) (by kernel_rfl)]; exact le_max hn) ⟨at_lvar (I := ib2I) (c := 0) (j0 := 0) (by kernel_rfl), at_lvar (I := ib2I) (c := 1) (j0 := 1) (by kernel_rfl)⟩)
 ·have hB := (cB_get (hc := ib2C) (outs := ib2L.outs) (F := F) (xs := xs) (t := ib2T) (by kernel_rfl)).1 ys hy
  have h0 : ys.getD 0 0 = xs.getD 0 0 := hB (0, 0, none) (by simp [ib2C])
  have h1 : ys.getD 1 0 = xs.getD 1 0 := hB (1, 1, none) (by simp [ib2C])
  exact ⟨h0.trans hJ.1, h1.trans hJ.2⟩
 ·obtain ⟨hJ, hJ1⟩ := hJ
  rw [hJ] at hi
  have him : i ≤ 1000000 := by omega
  rw [ib2_get, guard_x hc him (by rw [hJ]; exact hn), hJ, hQ] at hg
  by_cases hlt : i < (dec l).length
  ·rw [decide_eq_true hlt, cond_true, ap_y (b := false) (by rw [elB_v hc him, hJ1]; exact hq i hlt), cond_false] at hg
   cases hg
  ·rw [decide_eq_false hlt, cond_false] at hg
   cases hg; rfl
/-! places -/
theorem ia_get : ∃ N O : List SE, ∀ E : Env, iaT.get E = bif (SE.cmp .lss (.ivar .i64 2) (.len (.lvar 0))).val E != 0 then (bif (SE.not (.app 51 0 none (.cons (.el (some .i64) (.lvar 0) (.ivar .i64 2) 0) (.cons (.lit .i64 (-1)) (.cons (.bin .sub .i64 (.ivar .i64 1) (.lit .i64 1)) .nil))))).val E != 0 then (some 0, ([(.ivar .i64 2)] : List SE).map (SE.val E)) else (none, N.map (SE.val E))) else (some 1, O.map (SE.val E)) := ⟨_, _, fun E => rfl⟩
theorem sub1_v {F : Nat → List Int → List Int} {xs : List Int} {c : Nat} {n : Int} (hc : IntKind.i64.wrap (xs.getD c 0) = n) (hn : 0 ≤ n ∧ n ≤ 1000000) : (SE.bin .sub .i64 (.ivar .i64 c) (.lit .i64 1)).val (envOf F xs) = n - 1 := by
 rw [v_bin, iu_at, hc, v_lit, w1i]
 show IntKind.i64.wrap (n - 1) = _
 rw [IntKind.wrap_i64]; omega
theorem ia_all (F : Nat → List Int → List Int) (a n : Int) (hn : (dec a).length ≤ 1000000) (hm : 0 ≤ n ∧ n ≤ 1000000) (hq : ∀ i, i < (dec a).length → F 51 [IntKind.i64.wrap (((dec a).getD i []).getD 0 0), -1, n - 1] = [1]) : ∃ ys, iaG F [a, n] = 1 :: ys := by
 obtain ⟨N, O, hget⟩ := ia_get
 have wn : IntKind.i64.wrap n = n := by rw [IntKind.wrap_i64]; omega
 have ini : (iaI.map (SE.val (envOf F [a, n]))).getD 1 0 = n := by
  have : (iaI.map (SE.val (envOf F [a, n]))).getD 1 0 = (SE.ivar .i64 1).val (envOf F [a, n]) := rfl
  rw [this, iu_at]; exact wn
 refine lp_good (range_good (T := iaT) (c := 2) (lv := 0) (ex := []) (by kernel_rfl) (fun xs => xs.getD 0 0 = a ∧ IntKind.i64.wrap (xs.getD 1 0) = n) (fun xs ys hJ hy => ?_) (fun xs i hJ hc hi e ys hg => ?_) _ 0 0 _ (at_lit (I := iaI) (by kernel_rfl)) (by rw [at_lvar (I := iaI) (j0 := 0) (by kernel_rfl)]; unfold iaU; omega) (Nat.succ_pos _) (by rw [at_lvar (I := iaI) (j0 := 0) (by kernel_rfl)]; exact le_max hn) ⟨at_lvar (I := iaI) (c := 0) (j0 := 0) (by kernel_rfl), by rw [ini, wn]⟩)
 ·have hB := (cB_get (hc := iaC) (outs := iaL.outs) (F := F) (xs := xs) (t := iaT) (by kernel_rfl)).1 ys hy
  have h0 : ys.getD 0 0 = xs.getD 0 0 := hB (0, 0, none) (by simp [iaC])
  have h1 : wrK (some .i64) (ys.getD 1 0) = wrK (some .i64) (xs.getD 1 0) := hB (1, 1, some (some .i64)) (by simp [iaC])
  exact ⟨h0.trans hJ.1, h1.trans hJ.2⟩
 ·obtain ⟨hJ, hJ1⟩ := hJ
  rw [hJ] at hi
  have him : i ≤ 1000000 := by omega
  have m1 : IntKind.i64.wrap (-1) = -1 := rfl
  rw [hget, guard_x hc him (by rw [hJ]; exact hn), hJ] at hg
  by_cases hlt : i < (dec a).length
  ·rw [decide_eq_true hlt, cond_true, ap_n (b := true) (by rw [vals_c, vals_c, vals_c, vals_n, el_x hc him, sub1_v hJ1 hm, v_lit, m1, hJ]; exact hq i hlt), Bool.not_true, cond_false] at hg
   cases hg
  ·rw [decide_eq_false hlt, cond_false] at hg
   cases hg; rfl
/-! tethers -/
structure TeOK (f g : List Int → List Int) (n : Int) (el : List Int) : Prop where
 a : f [IntKind.i64.wrap (el.getD 0 0), 0, n - 1] = [1]
 b : f [IntKind.i64.wrap (el.getD 1 0), 0, n - 1] = [1]
 ne : IntKind.i64.wrap (el.getD 0 0) ≠ IntKind.i64.wrap (el.getD 1 0)
 len : g [IntKind.i64.wrap (el.getD 2 0), IntKind.u64.wrap (el.getD 3 0), 1073741824] = [1]
 lo : IntKind.u64.wrap (el.getD 3 0) ≠ 0
 lim : g [IntKind.i64.wrap (el.getD 4 0), IntKind.u64.wrap (el.getD 5 0), 1099511627776] = [1]
theorem it_get : ∃ N O : List SE, ∀ E : Env, itT.get E = bif (SE.cmp .lss (.ivar .i64 2) (.len (.lvar 0))).val E != 0 then (bif (SE.app 51 0 none (.cons (.el (some .i64) (.lvar 0) (.ivar .i64 2) 0) (.cons (.lit .i64 0) (.cons (.bin .sub .i64 (.ivar .i64 1) (.lit .i64 1)) .nil)))).val E != 0 then (bif (SE.app 51 0 none (.cons (.el (some .i64) (.lvar 0) (.ivar .i64 2) 1) (.cons (.lit .i64 0) (.cons (.bin .sub .i64 (.ivar .i64 1) (.lit .i64 1)) .nil)))).val E != 0 then
  (bif (SE.cmp .neq (.el (some .i64) (.lvar 0) (.ivar .i64 2) 0) (.el (some .i64) (.lvar 0) (.ivar .i64 2) 1)).val E != 0 then (bif (SE.app 75 0 none (.cons (.el (some .i64) (.lvar 0) (.ivar .i64 2) 2) (.cons (.el (some .u64) (.lvar 0) (.ivar .i64 2) 3) (.cons (.lit .i64 1073741824) .nil)))).val E != 0 then (bif (SE.not (.and (.cmp .eql (.el (some .i64) (.lvar 0) (.ivar .i64 2) 2) (.lit .i64 0)) (.and (.cmp .eql (.el (some .u64) (.lvar 0) (.ivar .i64 2) 3) (.lit .u64 0)) (.cmp .eql (.lit .i64 1) (.lit .i64 1))))).val E != 0 then
  (bif (SE.not (.app 75 0 none (.cons (.el (some .i64) (.lvar 0) (.ivar .i64 2) 4) (.cons (.el (some .u64) (.lvar 0) (.ivar .i64 2) 5) (.cons (.lit .i64 1099511627776) .nil))))).val E != 0 then (some 0, ([(.ivar .i64 2)] : List SE).map (SE.val E)) else (none, N.map (SE.val E))) else (some 0, ([(.ivar .i64 2)] : List SE).map (SE.val E))) else (some 0, ([(.ivar .i64 2)] : List SE).map (SE.val E))) else (some 0, ([(.ivar .i64 2)] : List SE).map (SE.val E))) else (some 0, ([(.ivar .i64 2)] : List SE).map (SE.val E))) else (some 0, ([(.ivar .i64 2)] : List SE).map (SE.val E))) else (some 1, O.map (SE.val E)) := ⟨_, _, fun E => rfl⟩
theorem it_all (F : Nat → List Int → List Int) (a n : Int) (hn : (dec a).length ≤ 1000000) (hm : 0 ≤ n ∧ n ≤ 1000000) (hq : ∀ i, i < (dec a).length → TeOK (F 51) (F 75) n ((dec a).getD i [])) : ∃ ys, itG F [a, n] = 1 :: ys := by
 obtain ⟨N, O, hget⟩ := it_get
 have wn : IntKind.i64.wrap n = n := by rw [IntKind.wrap_i64]; omega
 have ini : (itI.map (SE.val (envOf F [a, n]))).getD 1 0 = n := by
  have : (itI.map (SE.val (envOf F [a, n]))).getD 1 0 = (SE.ivar .i64 1).val (envOf F [a, n]) := rfl
  rw [this, iu_at]; exact wn
 refine lp_good (range_good (T := itT) (c := 2) (lv := 0) (ex := []) (by kernel_rfl) (fun xs => xs.getD 0 0 = a ∧ IntKind.i64.wrap (xs.getD 1 0) = n) (fun xs ys hJ hy => ?_) (fun xs i hJ hc hi e ys hg => ?_) _ 0 0 _ (at_lit (I := itI) (by kernel_rfl)) (by rw [at_lvar (I := itI) (j0 := 0) (by kernel_rfl)]; unfold itU; omega) (Nat.succ_pos _) (by rw [at_lvar (I := itI) (j0 := 0) (by kernel_rfl)]; exact le_max hn) ⟨at_lvar (I := itI) (c := 0) (j0 := 0) (by kernel_rfl), by rw [ini, wn]⟩)
 ·have hB := (cB_get (hc := itC) (outs := itL.outs) (F := F) (xs := xs) (t := itT) (by kernel_rfl)).1 ys hy
  have h0 : ys.getD 0 0 = xs.getD 0 0 := hB (0, 0, none) (by simp [itC])
  have h1 : wrK (some .i64) (ys.getD 1 0) = wrK (some .i64) (xs.getD 1 0) := hB (1, 1, some (some .i64)) (by simp [itC])
  exact ⟨h0.trans hJ.1, h1.trans hJ.2⟩
 ·obtain ⟨hJ, hJ1⟩ := hJ
  rw [hJ] at hi
  have him : i ≤ 1000000 := by omega
  rw [hget, guard_x hc him (by rw [hJ]; exact hn), hJ] at hg
  by_cases hlt : i < (dec a).length
  ·obtain ⟨ha, hb, hne, hlen, hlo, hlim⟩ := hq i hlt
   have w0 : IntKind.i64.wrap 0 = 0 := rfl
   have wL : IntKind.i64.wrap 1073741824 = 1073741824 := rfl
   have wM : IntKind.i64.wrap 1099511627776 = 1099511627776 := rfl
   have k3 : ((SE.cmp .neq (.el (some .i64) (.lvar 0) (.ivar .i64 2) 0) (.el (some .i64) (.lvar 0) (.ivar .i64 2) 1)).val (envOf F xs) != 0) = true := by
    rw [v_cmp, el_x hc him, el_x hc him, hJ]; exact bne_iff_ne.2 hne
   have k5 : ((SE.not (.and (.cmp .eql (.el (some .i64) (.lvar 0) (.ivar .i64 2) 2) (.lit .i64 0)) (.and (.cmp .eql (.el (some .u64) (.lvar 0) (.ivar .i64 2) 3) (.lit .u64 0)) (.cmp .eql (.lit .i64 1) (.lit .i64 1))))).val (envOf F xs) != 0) = true := by
    have q : ((SE.cmp .eql (.el (some .u64) (.lvar 0) (.ivar .i64 2) 3) (.lit .u64 0)).val (envOf F xs) != 0) = false := by
     rw [v_cmp, el_x hc him, hJ, v_lit]; exact beq_eq_false_iff_ne.2 hlo
    rw [v_not, v_and, v_and, q, Bool.false_and, Bool.and_false]; rfl
   rw [decide_eq_true hlt, cond_true, ap_y (b := true) (by rw [vals_c, vals_c, vals_c, vals_n, el_x hc him, sub1_v hJ1 hm, v_lit, w0, hJ]; exact ha), cond_true,
    ap_y (b := true) (by rw [vals_c, vals_c, vals_c, vals_n, el_x hc him, sub1_v hJ1 hm, v_lit, w0, hJ]; exact hb), cond_true, k3, cond_true,
    ap_y (b := true) (by rw [vals_c, vals_c, vals_c, vals_n, el_x hc him, el_x hc him, v_lit, wL, hJ]; exact hlen), cond_true, k5, cond_true,
    ap_n (b := true) (by rw [vals_c, vals_c, vals_c, vals_n, el_x hc him, el_x hc him, v_lit, wM, hJ]; exact hlim), Bool.not_true, cond_false] at hg
   cases hg
  ·rw [decide_eq_false hlt, cond_false] at hg
   cases hg; rfl
end Go.Proofs.Ytedfbamihjnhhaa.Own
end
