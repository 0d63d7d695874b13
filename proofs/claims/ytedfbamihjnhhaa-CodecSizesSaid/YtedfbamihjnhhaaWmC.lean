/- A world made: whether a body may be, as one truth. -/
import Derived.Test.YtedfbamihjnhhaaWmB
import Derived.Test.YtedfbamihjnhhaaTr7
namespace Go.Proofs.Ytedfbamihjnhhaa.Own
open Go Go.RowKit Go.Proofs Go.Proofs.Ytedfbamihjnhhaa.Plain
set_option linter.unusedVariables false
set_option linter.unusedSectionVars false
set_option linter.unusedSimpArgs false
set_option maxRecDepth 100000
def kB (j : Nat) : IntKind := if j = 1 ∨ j = 3 ∨ j = 5 ∨ j = 7 ∨ j = 9 ∨ j = 11 ∨ j = 13 ∨ j = 15 ∨ j = 17 then .u64 else .i64
def BdIn (zs : List Int) : Prop := ∀ j, j < 20 → inK (some (kB j)) (zs.getD j 0)
def qV (a0 a1 b0 b1 : Int) : Fx × Int := fdiv (fxW a0 a1) (fxW b0 b1)
def nearF (n most : Int) : Bool := decide (n ≤ nn most 0) && decide (nn (-most) 0 ≤ n)
def slowB (zs : List Int) : Bool :=
 decide ((qV (zs.getD 8 0) (zs.getD 9 0) (zs.getD 0 0) (zs.getD 1 0)).2 = 0) && (decide ((qV (zs.getD 10 0) (zs.getD 11 0) (zs.getD 0 0) (zs.getD 1 0)).2 = 0) &&
 (nearF (qV (zs.getD 8 0) (zs.getD 9 0) (zs.getD 0 0) (zs.getD 1 0)).1.n 65536 && nearF (qV (zs.getD 10 0) (zs.getD 11 0) (zs.getD 0 0) (zs.getD 1 0)).1.n 65536))
def mayB (zs : List Int) : Bool :=
 (mayN (zs.getD 4 0) (zs.getD 5 0) && mayN (zs.getD 6 0) (zs.getD 7 0)) && ((mayN (zs.getD 8 0) (zs.getD 9 0) && mayN (zs.getD 10 0) (zs.getD 11 0)) &&
 (inF (zs.getD 0 0) (zs.getD 1 0) 281474976710656 (nn 1048576 0) && (inF (zs.getD 12 0) (zs.getD 13 0) 0 (nn (zs.getD 0 0) (zs.getD 1 0)) &&
 (decide (281474976710656 ≤ nn (zs.getD 0 0) (zs.getD 1 0) - nn (zs.getD 12 0) (zs.getD 13 0)) && (inF (zs.getD 2 0) (zs.getD 3 0) 0 (nn 65536 0) && (inF (zs.getD 14 0) (zs.getD 15 0) 0 (nn 65536 0) && (inF (zs.getD 16 0) (zs.getD 17 0) 0 (nn 65536 0) &&
 (slowB zs && ((nearF (nn (zs.getD 4 0) (zs.getD 5 0)) 1073741824 && nearF (nn (zs.getD 6 0) (zs.getD 7 0)) 1073741824) && ((decide (0 ≤ zs.getD 18 0) && decide (zs.getD 18 0 ≤ 100)) && (decide (0 ≤ zs.getD 19 0) && decide (zs.getD 19 0 ≤ 65535))))))))))))
def al (zs : List Int) : List Int := [zs.getD 0 0, zs.getD 1 0, zs.getD 2 0, zs.getD 3 0, zs.getD 4 0, zs.getD 5 0, zs.getD 6 0, zs.getD 7 0, zs.getD 8 0, zs.getD 9 0, zs.getD 10 0, zs.getD 11 0, zs.getD 12 0, zs.getD 13 0, zs.getD 14 0, zs.getD 15 0, zs.getD 16 0, zs.getD 17 0, zs.getD 18 0, zs.getD 19 0]
def aB : SE := (.cons (.ivar .i64 0) (.cons (.ivar .u64 1) (.cons (.ivar .i64 2) (.cons (.ivar .u64 3) (.cons (.ivar .i64 4) (.cons (.ivar .u64 5) (.cons (.ivar .i64 6) (.cons (.ivar .u64 7) (.cons (.ivar .i64 8) (.cons (.ivar .u64 9) (.cons (.ivar .i64 10) (.cons (.ivar .u64 11) (.cons (.ivar .i64 12) (.cons (.ivar .u64 13) (.cons (.ivar .i64 14) (.cons (.ivar .u64 15) (.cons (.ivar .i64 16) (.cons (.ivar .u64 17) (.cons (.ivar .i64 18) (.cons (.ivar .i64 19) .nil))))))))))))))))))))
section
variable {zs : List Int} (h : BdIn zs)
include h
theorem bi (j : Nat) (hj : j < 20) (hk : kB j = .i64) : inK (some .i64) (zs.getD j 0) := by have := h j hj; rwa [hk] at this
theorem bu (j : Nat) (hj : j < 20) (hk : kB j = .u64) : inK (some .u64) (zs.getD j 0) := by have := h j hj; rwa [hk] at this
theorem iv_i {F : Nat → List Int → List Int} (j : Nat) (hj : j < 20) (hk : kB j = .i64) : (SE.ivar .i64 j).val (envOf F zs) = zs.getD j 0 := by
 rw [iu_at]; exact bi h j hj hk
theorem iv_u {F : Nat → List Int → List Int} (j : Nat) (hj : j < 20) (hk : kB j = .u64) : (SE.ivar .u64 j).val (envOf F zs) = zs.getD j 0 := by
 rw [iu_at]; exact bu h j hj hk
theorem aB_v {F : Nat → List Int → List Int} : aB.vals (envOf F zs) = al zs := by
 unfold aB al
 simp only [vals_c, vals_n]
 rw [iv_i h 0 (by decide) rfl, iv_u h 1 (by decide) rfl, iv_i h 2 (by decide) rfl, iv_u h 3 (by decide) rfl, iv_i h 4 (by decide) rfl, iv_u h 5 (by decide) rfl, iv_i h 6 (by decide) rfl, iv_u h 7 (by decide) rfl, iv_i h 8 (by decide) rfl, iv_u h 9 (by decide) rfl, iv_i h 10 (by decide) rfl, iv_u h 11 (by decide) rfl, iv_i h 12 (by decide) rfl, iv_u h 13 (by decide) rfl, iv_i h 14 (by decide) rfl, iv_u h 15 (by decide) rfl, iv_i h 16 (by decide) rfl, iv_u h 17 (by decide) rfl, iv_i h 18 (by decide) rfl, iv_i h 19 (by decide) rfl]
theorem al_in : BdIn (al zs) := fun j hj => by
 have e : (al zs).getD j 0 = zs.getD j 0 := by
  match j, hj with
  | 0, _ | 1, _ | 2, _ | 3, _ | 4, _ | 5, _ | 6, _ | 7, _ | 8, _ | 9, _ | 10, _ | 11, _ | 12, _ | 13, _ | 14, _ | 15, _ | 16, _ | 17, _ | 18, _ | 19, _ => rfl
  | (n + 20), hn => omega
 rw [e]; exact h j hj
end
theorem slow_al (zs : List Int) : slowB (al zs) = slowB zs := by
 have e8 : (al zs).getD 8 0 = zs.getD 8 0 := rfl
 have e9 : (al zs).getD 9 0 = zs.getD 9 0 := rfl
 have e10 : (al zs).getD 10 0 = zs.getD 10 0 := rfl
 have e11 : (al zs).getD 11 0 = zs.getD 11 0 := rfl
 have e0 : (al zs).getD 0 0 = zs.getD 0 0 := rfl
 have e1 : (al zs).getD 1 0 = zs.getD 1 0 := rfl
 unfold slowB
 rw [e8, e9, e10, e11, e0, e1]
theorem q_eq (a0 a1 b0 b1 : Int) : gFdiv [a0, a1, b0, b1] = [(qV a0 a1 b0 b1).1.hi, (qV a0 a1 b0 b1).1.lo, (qV a0 a1 b0 b1).2] := by
 unfold qV
 exact gFdiv_eq a0 a1 b0 b1
section
variable {F : Nat → List Int → List Int} {zs : List Int} {x : SE} {t e : ST}
theorem tf_go (hx : (x.val (envOf F zs) != 0) = true) : treeFn (.ask x t e) F zs = treeFn t F zs := by
 unfold treeFn; simp only [ST.get, hx, cond_true]
theorem tf_by (hx : (x.val (envOf F zs) != 0) = false) : treeFn (.ask x t e) F zs = treeFn e F zs := by
 unfold treeFn; simp only [ST.get, hx, cond_false]
end
theorem gd0 (a d : Int) (l : List Int) : (a :: l).getD 0 d = a := List.getD_cons_zero
theorem gd1 (a b d : Int) (l : List Int) : (a :: b :: l).getD 1 d = b := by rw [List.getD_cons_succ, List.getD_cons_zero]
theorem gd2 (a b c d : Int) (l : List Int) : (a :: b :: c :: l).getD 2 d = c := by rw [List.getD_cons_succ, List.getD_cons_succ, List.getD_cons_zero]
theorem q_err (a0 a1 b0 b1 : Int) : inK (some .i64) (qV a0 a1 b0 b1).2 := by unfold qV; exact err_in3 (fdiv_err _ _)
theorem q_in (a0 a1 b0 b1 : Int) : inK (some .i64) (qV a0 a1 b0 b1).1.hi ∧ inK (some .u64) (qV a0 a1 b0 b1).1.lo := fx_in _
theorem f81g {n : Int} (h : -1152921504606846976 ≤ n ∧ n ≤ 1152921504606846976) : FT Tr5_T77 81 [n] = [n, 0] := by
 rw [g81]
 have w1 : IntKind.i64.wrap n = n := by rw [IntKind.wrap_i64]; omega
 have w2 : IntKind.i64.wrap (-9223372036854775807) = -9223372036854775807 := rfl
 simp only [treeFn, tr81, ST.get, flatV, valC, List.map, SE.val, envOf_iv, List.getD_cons_zero, w1, w2, show decide ((-9223372036854775807 : Int) > n) = false from decide_eq_false (by omega), cond_false]
section
variable {a0 a1 b0 b1 n : Int}
theorem f105n (h0 : inK (some .i64) a0) (h1 : inK (some .u64) a1) (h2 : inK (some .i64) b0) (h3 : inK (some .u64) b1) (hn : 0 ≤ n ∧ n ≤ 1152921504606846976) : FT Tr5_T105 105 [a0, a1, b0, b1, n] = [b2i (nearF (nn a0 a1) n && nearF (nn b0 b1) n)] := by
 have g : FT Tr5_T105 105 = treeFn tr105 (FT Tr5_T104) := FT_hd (Tb := Tr5_T105) rfl rfl
 have e83 : FT Tr5_T104 83 = FT Tr5_T83 83 := FT_at 15 (by kernel_rfl) (by kernel_rfl)
 have e81 : FT Tr5_T104 81 = FT Tr5_T77 81 := (FT_at 21 (by kernel_rfl) (by kernel_rfl)).trans (FT_at 7 (Tb := Tr5_T77) (Tb' := Tr5_T81) (by kernel_rfl) (by kernel_rfl)).symm
 have kn : inK (some .i64) n := by show IntKind.i64.wrap n = n; rw [IntKind.wrap_i64]; omega
 have km : inK (some .i64) (-n) := by show IntKind.i64.wrap (-n) = -n; rw [IntKind.wrap_i64]; omega
 have k0 : inK (some .u64) 0 := rfl
 have i0 : (SE.ivar .i64 0).val (envOf (FT Tr5_T104) [a0, a1, b0, b1, n]) = a0 := by rw [iu_at]; exact h0
 have i1 : (SE.ivar .u64 1).val (envOf (FT Tr5_T104) [a0, a1, b0, b1, n]) = a1 := by rw [iu_at]; exact h1
 have i2 : (SE.ivar .i64 2).val (envOf (FT Tr5_T104) [a0, a1, b0, b1, n]) = b0 := by rw [iu_at]; exact h2
 have i3 : (SE.ivar .u64 3).val (envOf (FT Tr5_T104) [a0, a1, b0, b1, n]) = b1 := by rw [iu_at]; exact h3
 have i4 : (SE.ivar .i64 4).val (envOf (FT Tr5_T104) [a0, a1, b0, b1, n]) = n := by rw [iu_at]; exact kn
 have im : (SE.bin .sub .i64 (.lit .i64 0) (.ivar .i64 4)).val (envOf (FT Tr5_T104) [a0, a1, b0, b1, n]) = -n := by
  rw [v_bin, v_lit, i4]
  show IntKind.i64.wrap (0 - n) = -n
  rw [IntKind.wrap_i64]; omega
 have p0 : (SE.app 81 0 (some .i64) (.cons (.ivar .i64 4) .nil)).val (envOf (FT Tr5_T104) [a0, a1, b0, b1, n]) = n := ap_i (l := [n, 0]) (by rw [vals_c, vals_n, i4, e81, f81g ⟨by omega, hn.2⟩]) rfl kn
 have p1 : (SE.app 81 1 (some .u64) (.cons (.ivar .i64 4) .nil)).val (envOf (FT Tr5_T104) [a0, a1, b0, b1, n]) = 0 := ap_i (l := [n, 0]) (by rw [vals_c, vals_n, i4, e81, f81g ⟨by omega, hn.2⟩]) rfl k0
 have m0 : (SE.app 81 0 (some .i64) (.cons (.bin .sub .i64 (.lit .i64 0) (.ivar .i64 4)) .nil)).val (envOf (FT Tr5_T104) [a0, a1, b0, b1, n]) = -n := ap_i (l := [-n, 0]) (by rw [vals_c, vals_n, im, e81, f81g ⟨by omega, by omega⟩]) rfl km
 have m1 : (SE.app 81 1 (some .u64) (.cons (.bin .sub .i64 (.lit .i64 0) (.ivar .i64 4)) .nil)).val (envOf (FT Tr5_T104) [a0, a1, b0, b1, n]) = 0 := ap_i (l := [-n, 0]) (by rw [vals_c, vals_n, im, e81, f81g ⟨by omega, by omega⟩]) rfl k0
 have c : ∀ {x y s t : SE} {u0 u1 w0 w1 : Int}, x.val (envOf (FT Tr5_T104) [a0, a1, b0, b1, n]) = u0 → y.val (envOf (FT Tr5_T104) [a0, a1, b0, b1, n]) = u1 → s.val (envOf (FT Tr5_T104) [a0, a1, b0, b1, n]) = w0 → t.val (envOf (FT Tr5_T104) [a0, a1, b0, b1, n]) = w1 → inK (some .i64) u0 → inK (some .u64) u1 → inK (some .i64) w0 → inK (some .u64) w1 → (SE.app 83 0 (some .i64) (.cons x (.cons y (.cons s (.cons t .nil))))).val (envOf (FT Tr5_T104) [a0, a1, b0, b1, n]) = cmp4 u0 u1 w0 w1 := by
  intro x y s t u0 u1 w0 w1 hx hy hs ht k1 k2 k3 k4
  exact ap_i (l := [cmp4 u0 u1 w0 w1]) (by rw [vals_c, vals_c, vals_c, vals_c, vals_n, hx, hy, hs, ht, e83, f83 k1 k2 k3 k4]) rfl (cmp4_in _ _ _ _)
 have z : (SE.lit .i64 0).val (envOf (FT Tr5_T104) [a0, a1, b0, b1, n]) = 0 := l_i0
 have fin : (nearF (nn a0 a1) n && nearF (nn b0 b1) n) = (decide (cmp4 a0 a1 n 0 ≤ 0) && (decide (0 ≤ cmp4 a0 a1 (-n) 0) && (decide (cmp4 b0 b1 n 0 ≤ 0) && decide (0 ≤ cmp4 b0 b1 (-n) 0)))) := by
  rw [cmp4_le h1 k0, cmp4_ge h1 k0, cmp4_le h3 k0, cmp4_ge h3 k0]
  unfold nearF
  rw [Bool.and_assoc]
 rw [g, fin]; unfold tr105
 refine tf_y ?_ fun _ => tf_y ?_ fun _ => tf_y ?_ fun _ => tf_1 ?_
 ·rw [v_cmp, c i0 i1 p0 p1 h0 h1 kn k0, z]; rfl
 ·rw [v_cmp, c i0 i1 m0 m1 h0 h1 km k0, z]; rfl
 ·rw [v_cmp, c i2 i3 p0 p1 h2 h3 kn k0, z]; rfl
 ·have e : (SE.cmp .geq (.app 83 0 (some .i64) (.cons (.ivar .i64 2) (.cons (.ivar .u64 3) (.cons (.app 81 0 (some .i64) (.cons (.bin .sub .i64 (.lit .i64 0) (.ivar .i64 4)) .nil)) (.cons (.app 81 1 (some .u64) (.cons (.bin .sub .i64 (.lit .i64 0) (.ivar .i64 4)) .nil)) .nil))))) (.lit .i64 0)).val (envOf (FT Tr5_T104) [a0, a1, b0, b1, n]) = b2i (valCmp .geq ((SE.app 83 0 (some .i64) (.cons (.ivar .i64 2) (.cons (.ivar .u64 3) (.cons (.app 81 0 (some .i64) (.cons (.bin .sub .i64 (.lit .i64 0) (.ivar .i64 4)) .nil)) (.cons (.app 81 1 (some .u64) (.cons (.bin .sub .i64 (.lit .i64 0) (.ivar .i64 4)) .nil)) .nil))))).val (envOf (FT Tr5_T104) [a0, a1, b0, b1, n])) ((SE.lit .i64 0).val (envOf (FT Tr5_T104) [a0, a1, b0, b1, n]))) := by simp only [SE.val]
  rw [e, c i2 i3 m0 m1 h2 h3 km k0, z]; rfl
theorem f85n (h0 : inK (some .i64) a0) (h1 : inK (some .u64) a1) (h2 : inK (some .i64) b0) (h3 : inK (some .u64) b1) : FT Tr5_T85 85 [a0, a1, b0, b1] = [b2i (nearF (nn a0 a1) 1073741824 && nearF (nn b0 b1) 1073741824)] := by
 have e : FT Tr5_T84 105 = FT Tr5_T105 105 := FT_at 1 (by kernel_rfl) (by kernel_rfl)
 rw [g85]; unfold tr85
 refine tf_1 (ap_b ?_)
 simp only [vals_c, vals_n, iu_at, List.getD_cons_zero, List.getD_cons_succ, w_i h0, w_u h1, w_i h2, w_u h3, v_lit]
 rw [e]; exact f105n h0 h1 h2 h3 ⟨by decide, by decide⟩
theorem f128n {c0 c1 : Int} (h0 : inK (some .i64) a0) (h1 : inK (some .u64) a1) (h2 : inK (some .i64) b0) (h3 : inK (some .u64) b1) (h4 : inK (some .i64) c0) (h5 : inK (some .u64) c1) :
  FT Tr5_T128 128 [a0, a1, b0, b1, c0, c1] = if (qV a0 a1 c0 c1).2 = 0 then (if (qV b0 b1 c0 c1).2 = 0 then [(qV a0 a1 c0 c1).1.hi, (qV a0 a1 c0 c1).1.lo, (qV b0 b1 c0 c1).1.hi, (qV b0 b1 c0 c1).1.lo, 0] else [0, 0, 0, 0, (qV b0 b1 c0 c1).2]) else [0, 0, 0, 0, (qV a0 a1 c0 c1).2] := by
 have g : FT Tr5_T128 128 = treeFn tr128 (FT Tr5_T150) := FT_hd (Tb := Tr5_T128) rfl rfl
 have e0 : FT Tr5_T150 139 = FT TbE_T 139 := FT_at 22 (by kernel_rfl) (by kernel_rfl)
 have e1 : FT TbE_T 139 = gFdiv := FT_hd (Tb := TbE_T) rfl rfl
 have e139 := e0.trans e1
 have i0 : (SE.ivar .i64 0).val (envOf (FT Tr5_T150) [a0, a1, b0, b1, c0, c1]) = a0 := by rw [iu_at]; exact h0
 have i1 : (SE.ivar .u64 1).val (envOf (FT Tr5_T150) [a0, a1, b0, b1, c0, c1]) = a1 := by rw [iu_at]; exact h1
 have i2 : (SE.ivar .i64 2).val (envOf (FT Tr5_T150) [a0, a1, b0, b1, c0, c1]) = b0 := by rw [iu_at]; exact h2
 have i3 : (SE.ivar .u64 3).val (envOf (FT Tr5_T150) [a0, a1, b0, b1, c0, c1]) = b1 := by rw [iu_at]; exact h3
 have i4 : (SE.ivar .i64 4).val (envOf (FT Tr5_T150) [a0, a1, b0, b1, c0, c1]) = c0 := by rw [iu_at]; exact h4
 have i5 : (SE.ivar .u64 5).val (envOf (FT Tr5_T150) [a0, a1, b0, b1, c0, c1]) = c1 := by rw [iu_at]; exact h5
 have k0 := q_in a0 a1 c0 c1
 have k1 := q_in b0 b1 c0 c1
 have ke := q_err a0 a1 c0 c1
 have kf := q_err b0 b1 c0 c1
 have d1 : gFdiv [a0, a1, c0, c1] = [(qV a0 a1 c0 c1).1.hi, (qV a0 a1 c0 c1).1.lo, (qV a0 a1 c0 c1).2] := q_eq a0 a1 c0 c1
 have d2 : gFdiv [b0, b1, c0, c1] = [(qV b0 b1 c0 c1).1.hi, (qV b0 b1 c0 c1).1.lo, (qV b0 b1 c0 c1).2] := q_eq b0 b1 c0 c1
 generalize qV a0 a1 c0 c1 = A at *
 generalize qV b0 b1 c0 c1 = B at *
 have vA : (SE.cons (.ivar .i64 0) (.cons (.ivar .u64 1) (.cons (.ivar .i64 4) (.cons (.ivar .u64 5) .nil)))).vals (envOf (FT Tr5_T150) [a0, a1, b0, b1, c0, c1]) = [a0, a1, c0, c1] := by rw [vals_c, vals_c, vals_c, vals_c, vals_n, i0, i1, i4, i5]
 have vB : (SE.cons (.ivar .i64 2) (.cons (.ivar .u64 3) (.cons (.ivar .i64 4) (.cons (.ivar .u64 5) .nil)))).vals (envOf (FT Tr5_T150) [a0, a1, b0, b1, c0, c1]) = [b0, b1, c0, c1] := by rw [vals_c, vals_c, vals_c, vals_c, vals_n, i2, i3, i4, i5]
 have hfA : FT Tr5_T150 139 ((SE.cons (.ivar .i64 0) (.cons (.ivar .u64 1) (.cons (.ivar .i64 4) (.cons (.ivar .u64 5) .nil)))).vals (envOf (FT Tr5_T150) [a0, a1, b0, b1, c0, c1])) = [A.1.hi, A.1.lo, A.2] := by rw [vA, e139, d1]
 have hfB : FT Tr5_T150 139 ((SE.cons (.ivar .i64 2) (.cons (.ivar .u64 3) (.cons (.ivar .i64 4) (.cons (.ivar .u64 5) .nil)))).vals (envOf (FT Tr5_T150) [a0, a1, b0, b1, c0, c1])) = [B.1.hi, B.1.lo, B.2] := by rw [vB, e139, d2]
 have A0 := ap_i (F := FT Tr5_T150) (f := 139) (i := 0) (k := .i64) (l := [A.1.hi, A.1.lo, A.2]) (v := A.1.hi) hfA (gd0 _ _ _) k0.1
 have A1 := ap_i (F := FT Tr5_T150) (f := 139) (i := 1) (k := .u64) (l := [A.1.hi, A.1.lo, A.2]) (v := A.1.lo) hfA (gd1 _ _ _ _) k0.2
 have A2 := ap_i (F := FT Tr5_T150) (f := 139) (i := 2) (k := .i64) (l := [A.1.hi, A.1.lo, A.2]) (v := A.2) hfA (gd2 _ _ _ _ _) ke
 have B0 := ap_i (F := FT Tr5_T150) (f := 139) (i := 0) (k := .i64) (l := [B.1.hi, B.1.lo, B.2]) (v := B.1.hi) hfB (gd0 _ _ _) k1.1
 have B1 := ap_i (F := FT Tr5_T150) (f := 139) (i := 1) (k := .u64) (l := [B.1.hi, B.1.lo, B.2]) (v := B.1.lo) hfB (gd1 _ _ _ _) k1.2
 have B2 := ap_i (F := FT Tr5_T150) (f := 139) (i := 2) (k := .i64) (l := [B.1.hi, B.1.lo, B.2]) (v := B.2) hfB (gd2 _ _ _ _ _) kf
 have cn : ∀ (x : SE) (v : Int), x.val (envOf (FT Tr5_T150) [a0, a1, b0, b1, c0, c1]) = v → ((SE.cmp .neq x (.lit .i64 0)).val (envOf (FT Tr5_T150) [a0, a1, b0, b1, c0, c1]) != 0) = (v != 0) := fun x v hx => by rw [v_cmp, hx, l_i0]; rfl
 rw [g]; unfold tr128
 by_cases z1 : A.2 = 0
 ·rw [if_pos z1, tf_by (by rw [cn _ _ A2, z1]; rfl)]
  by_cases z2 : B.2 = 0
  ·rw [if_pos z2, tf_by (by rw [cn _ _ B2, z2]; rfl)]
   unfold treeFn
   simp only [ST.get, flatV, flatVs, List.map, valC, List.cons_append, List.nil_append]
   rw [A0, A1, B0, B1]
  ·rw [if_neg z2, tf_go (by rw [cn _ _ B2]; exact bne_iff_ne.2 z2)]
   unfold treeFn
   simp only [ST.get, flatV, flatVs, List.map, valC, List.cons_append, List.nil_append]
   rw [B2]
 ·rw [if_neg z1, tf_go (by rw [cn _ _ A2]; exact bne_iff_ne.2 z1)]
  unfold treeFn
  simp only [ST.get, flatV, flatVs, List.map, valC, List.cons_append, List.nil_append]
  rw [A2]
end
def spV (a0 a1 b0 b1 c0 c1 : Int) : List Int := if (qV a0 a1 c0 c1).2 = 0 then (if (qV b0 b1 c0 c1).2 = 0 then [(qV a0 a1 c0 c1).1.hi, (qV a0 a1 c0 c1).1.lo, (qV b0 b1 c0 c1).1.hi, (qV b0 b1 c0 c1).1.lo, 0] else [0, 0, 0, 0, (qV b0 b1 c0 c1).2]) else [0, 0, 0, 0, (qV a0 a1 c0 c1).2]
theorem f128s {a0 a1 b0 b1 c0 c1 : Int} (h0 : inK (some .i64) a0) (h1 : inK (some .u64) a1) (h2 : inK (some .i64) b0) (h3 : inK (some .u64) b1) (h4 : inK (some .i64) c0) (h5 : inK (some .u64) c1) :
  FT Tr5_T128 128 [a0, a1, b0, b1, c0, c1] = spV a0 a1 b0 b1 c0 c1 := by unfold spV; exact f128n h0 h1 h2 h3 h4 h5
theorem spV_in (a0 a1 b0 b1 c0 c1 : Int) : ∃ r0 r1 r2 r3 r4, spV a0 a1 b0 b1 c0 c1 = [r0, r1, r2, r3, r4] ∧ inK (some .i64) r0 ∧ inK (some .u64) r1 ∧ inK (some .i64) r2 ∧ inK (some .u64) r3 ∧ inK (some .i64) r4 ∧
  ((decide ((qV a0 a1 c0 c1).2 = 0) && (decide ((qV b0 b1 c0 c1).2 = 0) && (nearF (qV a0 a1 c0 c1).1.n 65536 && nearF (qV b0 b1 c0 c1).1.n 65536))) = if r4 = 0 then nearF (nn r0 r1) 65536 && nearF (nn r2 r3) 65536 else false) := by
 unfold spV
 have ka := q_in a0 a1 c0 c1
 have kb := q_in b0 b1 c0 c1
 have ea := q_err a0 a1 c0 c1
 have eb := q_err b0 b1 c0 c1
 generalize qV a0 a1 c0 c1 = A at *
 generalize qV b0 b1 c0 c1 = B at *
 have nA : A.1.n = nn A.1.hi A.1.lo := rfl
 have nB : B.1.n = nn B.1.hi B.1.lo := rfl
 by_cases z1 : A.2 = 0
 ·rw [if_pos z1]
  by_cases z2 : B.2 = 0
  ·rw [if_pos z2]
   refine ⟨_, _, _, _, _, rfl, ka.1, ka.2, kb.1, kb.2, rfl, ?_⟩
   rw [if_pos rfl, decide_eq_true z1, decide_eq_true z2, nA, nB, Bool.true_and, Bool.true_and]
  ·rw [if_neg z2]
   refine ⟨_, _, _, _, _, rfl, rfl, rfl, rfl, rfl, eb, ?_⟩
   rw [if_neg z2, decide_eq_false z2, Bool.false_and, Bool.and_false]
 ·rw [if_neg z1]
  refine ⟨_, _, _, _, _, rfl, rfl, rfl, rfl, rfl, ea, ?_⟩
  rw [if_neg z1, decide_eq_false z1, Bool.false_and]
theorem slow_eq (zs : List Int) : slowB zs = (decide ((qV (zs.getD 8 0) (zs.getD 9 0) (zs.getD 0 0) (zs.getD 1 0)).2 = 0) && (decide ((qV (zs.getD 10 0) (zs.getD 11 0) (zs.getD 0 0) (zs.getD 1 0)).2 = 0) &&
 (nearF (qV (zs.getD 8 0) (zs.getD 9 0) (zs.getD 0 0) (zs.getD 1 0)).1.n 65536 && nearF (qV (zs.getD 10 0) (zs.getD 11 0) (zs.getD 0 0) (zs.getD 1 0)).1.n 65536))) := by unfold slowB; rfl
def oB : SE := .cons (.ivar .i64 8) (.cons (.ivar .u64 9) (.cons (.ivar .i64 10) (.cons (.ivar .u64 11) (.cons (.ivar .i64 0) (.cons (.ivar .u64 1) .nil)))))
section
variable {zs : List Int} (h : BdIn zs)
include h
theorem oB_v {F : Nat → List Int → List Int} : oB.vals (envOf F zs) = [zs.getD 8 0, zs.getD 9 0, zs.getD 10 0, zs.getD 11 0, zs.getD 0 0, zs.getD 1 0] := by
 unfold oB
 simp only [vals_c, vals_n]
 rw [iv_i h 8 (by decide) rfl, iv_u h 9 (by decide) rfl, iv_i h 10 (by decide) rfl, iv_u h 11 (by decide) rfl, iv_i h 0 (by decide) rfl, iv_u h 1 (by decide) rfl]
theorem f104n : FT Tr5_T104 104 zs = spV (zs.getD 8 0) (zs.getD 9 0) (zs.getD 10 0) (zs.getD 11 0) (zs.getD 0 0) (zs.getD 1 0) := by
 have g : FT Tr5_T104 104 = treeFn tr104 (FT Tr5_T128) := FT_hd (Tb := Tr5_T104) rfl rfl
 have hv := f128s (bi h 8 (by decide) rfl) (bu h 9 (by decide) rfl) (bi h 10 (by decide) rfl) (bu h 11 (by decide) rfl) (bi h 0 (by decide) rfl) (bu h 1 (by decide) rfl)
 obtain ⟨r0, r1, r2, r3, r4, e, k0, k1, k2, k3, k4, _⟩ := spV_in (zs.getD 8 0) (zs.getD 9 0) (zs.getD 10 0) (zs.getD 11 0) (zs.getD 0 0) (zs.getD 1 0)
 rw [e] at hv
 have t : tr104 = .leaf (.tup [.agg [.opq (.app 128 0 (some .i64) oB), .opq (.app 128 1 (some .u64) oB), .opq (.app 128 2 (some .i64) oB), .opq (.app 128 3 (some .u64) oB)], .one (.opq (.app 128 4 (some .i64) oB))]) := rfl
 rw [g, t, e]
 unfold treeFn
 simp only [ST.get, flatV, flatVs, List.map, valC, List.cons_append, List.nil_append]
 have hf : FT Tr5_T128 128 (oB.vals (envOf (FT Tr5_T128) zs)) = [r0, r1, r2, r3, r4] := by rw [oB_v h, hv]
 rw [ap_i (i := 0) hf rfl k0, ap_i (i := 1) hf rfl k1, ap_i (i := 2) hf rfl k2, ap_i (i := 3) hf rfl k3, ap_i (i := 4) hf rfl k4]
 rfl
theorem f84n : ∃ e, FT Tr5_T84 84 zs = [b2i (slowB zs), e] ∧ inK (some .i64) e ∧ (slowB zs = true → e = 0) := by
 have g : FT Tr5_T84 84 = treeFn tr84 (FT Tr5_T105) := FT_hd (Tb := Tr5_T84) rfl rfl
 have e104 : FT Tr5_T105 104 = FT Tr5_T104 104 := FT_at 1 (by kernel_rfl) (by kernel_rfl)
 have hv := f104n (al_in h)
 obtain ⟨r0, r1, r2, r3, r4, e, k0, k1, k2, k3, k4, hs⟩ := spV_in (zs.getD 8 0) (zs.getD 9 0) (zs.getD 10 0) (zs.getD 11 0) (zs.getD 0 0) (zs.getD 1 0)
 have e8 : (al zs).getD 8 0 = zs.getD 8 0 := rfl
 have e9 : (al zs).getD 9 0 = zs.getD 9 0 := rfl
 have e10 : (al zs).getD 10 0 = zs.getD 10 0 := rfl
 have e11 : (al zs).getD 11 0 = zs.getD 11 0 := rfl
 have e0 : (al zs).getD 0 0 = zs.getD 0 0 := rfl
 have e1 : (al zs).getD 1 0 = zs.getD 1 0 := rfl
 rw [e8, e9, e10, e11, e0, e1, e] at hv
 rw [← slow_eq] at hs
 have hf : FT Tr5_T105 104 (aB.vals (envOf (FT Tr5_T105) zs)) = [r0, r1, r2, r3, r4] := by rw [aB_v h, e104, hv]
 have t : tr84 = .ask (.cmp .eql (.app 104 4 (some .i64) aB) (.lit .i64 0)) (.leaf (.tup [.one (.opq (.app 105 0 none (.cons (.app 104 0 (some .i64) aB) (.cons (.app 104 1 (some .u64) aB) (.cons (.app 104 2 (some .i64) aB) (.cons (.app 104 3 (some .u64) aB) (.cons (.lit .i64 65536) .nil))))))), .one (.opq (.app 104 4 (some .i64) aB))])) (.leaf (.tup [.one (.bool false), .one (.opq (.app 104 4 (some .i64) aB))])) := rfl
 have q : ((SE.cmp .eql (.app 104 4 (some .i64) aB) (.lit .i64 0)).val (envOf (FT Tr5_T105) zs) != 0) = (r4 == 0) := by
  rw [v_cmp, ap_i (i := 4) hf rfl k4, l_i0]; rfl
 rw [g, t, hs]
 by_cases z : r4 = 0
 ·subst z
  rw [if_pos rfl, tf_go (by rw [q]; rfl)]
  refine ⟨0, ?_, rfl, fun _ => rfl⟩
  unfold treeFn
  simp only [ST.get, flatV, flatVs, List.map, valC, List.cons_append, List.nil_append]
  have hb : (SE.app 105 0 none (.cons (.app 104 0 (some .i64) aB) (.cons (.app 104 1 (some .u64) aB) (.cons (.app 104 2 (some .i64) aB) (.cons (.app 104 3 (some .u64) aB) (.cons (.lit .i64 65536) .nil)))))).val (envOf (FT Tr5_T105) zs) = b2i (nearF (nn r0 r1) 65536 && nearF (nn r2 r3) 65536) := by
   refine ap_b ?_
   simp only [vals_c, vals_n]
   rw [ap_i (i := 0) hf rfl k0, ap_i (i := 1) hf rfl k1, ap_i (i := 2) hf rfl k2, ap_i (i := 3) hf rfl k3, v_lit]
   exact f105n k0 k1 k2 k3 ⟨by decide, by decide⟩
  rw [ap_i (i := 4) hf rfl k4, hb]; rfl
 ·rw [if_neg z, tf_by (by rw [q]; exact beq_eq_false_iff_ne.2 z)]
  refine ⟨r4, ?_, k4, fun h => by cases h⟩
  unfold treeFn
  simp only [ST.get, flatV, flatVs, List.map, valC, List.cons_append, List.nil_append]
  rw [ap_i (i := 4) hf rfl k4]; rfl
end
section
variable {zs : List Int} (h : BdIn zs)
include h
theorem f45n : FT Tr5_T45 45 zs = [b2i (mayB zs)] := by
 have e76 : FT Tr5_T85 76 = FT Tr5_T76 76 := FT_at 14 (by kernel_rfl) (by kernel_rfl)
 have e77 : FT Tr5_T85 77 = FT Tr5_T77 77 := FT_at 17 (by kernel_rfl) (by kernel_rfl)
 have e83 : FT Tr5_T85 83 = FT Tr5_T83 83 := FT_at 18 (by kernel_rfl) (by kernel_rfl)
 have e75 : FT Tr5_T85 75 = FT Tr5_T75 75 := FT_at 16 (by kernel_rfl) (by kernel_rfl)
 have e51 : FT Tr5_T85 51 = FT Tr5_T51 51 := FT_at 15 (by kernel_rfl) (by kernel_rfl)
 have e84 : FT Tr5_T85 84 = FT Tr5_T84 84 := FT_at 1 (by kernel_rfl) (by kernel_rfl)
 have k0 : inK (some .i64) 0 := rfl
 have u0 : inK (some .u64) 0 := rfl
 have ul : inK (some .u64) 281474976710656 := rfl
 have km : inK (some .i64) 1048576 := rfl
 obtain ⟨er, h84, ker, hes⟩ := f84n (al_in h)
 rw [slow_al] at h84 hes
 have h84' : FT Tr5_T85 84 (aB.vals (envOf (FT Tr5_T85) zs)) = [b2i (slowB zs), er] := by rw [aB_v h, e84]; exact h84
 rw [g45]; unfold tr45
 refine tf_n (ap_n ?_) fun _ => tf_n (ap_n ?_) fun _ => tf_n (ap_n ?_) fun hm => tf_n (ap_n ?_) fun hf => ?_
 ·simp only [vals_c, vals_n]
  rw [iv_i h 4 (by decide) rfl, iv_u h 5 (by decide) rfl, iv_i h 6 (by decide) rfl, iv_u h 7 (by decide) rfl, e76]
  exact f76 (bi h 4 (by decide) rfl) (bu h 5 (by decide) rfl) (bi h 6 (by decide) rfl) (bu h 7 (by decide) rfl)
 ·simp only [vals_c, vals_n]
  rw [iv_i h 8 (by decide) rfl, iv_u h 9 (by decide) rfl, iv_i h 10 (by decide) rfl, iv_u h 11 (by decide) rfl, e76]
  exact f76 (bi h 8 (by decide) rfl) (bu h 9 (by decide) rfl) (bi h 10 (by decide) rfl) (bu h 11 (by decide) rfl)
 ·simp only [vals_c, vals_n]
  rw [iv_i h 0 (by decide) rfl, iv_u h 1 (by decide) rfl, v_lit, v_lit, v_lit, v_lit, e77]
  exact f77n (bi h 0 (by decide) rfl) (bu h 1 (by decide) rfl) k0 ul km u0
 ·simp only [vals_c, vals_n]
  rw [iv_i h 12 (by decide) rfl, iv_u h 13 (by decide) rfl, iv_i h 0 (by decide) rfl, iv_u h 1 (by decide) rfl, v_lit, v_lit, e77]
  exact f77n (bi h 12 (by decide) rfl) (bu h 13 (by decide) rfl) k0 u0 (bi h 0 (by decide) rfl) (bu h 1 (by decide) rfl)
 ·have b1 := in_u (bu h 1 (by decide) rfl)
  have b13 := in_u (bu h 13 (by decide) rfl)
  unfold inF at hm hf
  simp only [Bool.and_eq_true, decide_eq_true_eq] at hm hf
  have p0 : 0 ≤ zs.getD 0 0 ∧ zs.getD 0 0 < 9223372036854775808 := by have := hm.2; unfold nn at this; omega
  have p12 : 0 ≤ zs.getD 12 0 ∧ zs.getD 12 0 < 9223372036854775808 := by have h1 := hf.2; have h2 := hm.2; unfold nn at h1 h2; omega
  have h82 := f82p p0 (bu h 1 (by decide) rfl) p12 (bu h 13 (by decide) rfl)
  have ho := of_in (nn (zs.getD 0 0) (zs.getD 1 0) - nn (zs.getD 12 0) (zs.getD 13 0))
  have hon : nn (Fx.of (nn (zs.getD 0 0) (zs.getD 1 0) - nn (zs.getD 12 0) (zs.getD 13 0))).hi (Fx.of (nn (zs.getD 0 0) (zs.getD 1 0) - nn (zs.getD 12 0) (zs.getD 13 0))).lo = nn (zs.getD 0 0) (zs.getD 1 0) - nn (zs.getD 12 0) (zs.getD 13 0) :=
   Fx.of_n _ (by have h1 := hf.2; have h2 := hm.2; unfold nn at h1 h2 ⊢; omega)
  generalize Fx.of (nn (zs.getD 0 0) (zs.getD 1 0) - nn (zs.getD 12 0) (zs.getD 13 0)) = D at *
  have v82 : FT Tr5_T85 82 ((SE.cons (.ivar .i64 0) (.cons (.ivar .u64 1) (.cons (.ivar .i64 12) (.cons (.ivar .u64 13) .nil)))).vals (envOf (FT Tr5_T85) zs)) = [D.hi, D.lo, 0] := by
   simp only [vals_c, vals_n]
   rw [iv_i h 0 (by decide) rfl, iv_u h 1 (by decide) rfl, iv_i h 12 (by decide) rfl, iv_u h 13 (by decide) rfl]
   exact h82
  rw [tf_by (by rw [v_cmp, ap_i (i := 2) v82 (gd2 _ _ _ _ _) k0, l_i0]; rfl)]
  refine tf_n ?_ fun _ => tf_n (ap_n ?_) fun _ => tf_n (ap_n ?_) fun _ => tf_n (ap_n ?_) fun _ => tf_y (q := slowB zs) ?_ fun hs => ?_
  ·rw [v_cmp, l_i0, ap_i (i := 0) (k := .i64) (v := cmp4 D.hi D.lo 0 281474976710656) (l := [cmp4 D.hi D.lo 0 281474976710656]) (by
    rw [vals_c, vals_c, vals_c, vals_c, vals_n, ap_i (i := 0) v82 (gd0 _ _ _) ho.1, ap_i (i := 1) v82 (gd1 _ _ _ _) ho.2, v_lit, v_lit, e83]
    exact f83 ho.1 ho.2 k0 ul) rfl (cmp4_in _ _ _ _)]
   have hc4 := cmp4_ge (a0 := D.hi) (b0 := 0) ho.2 ul
   have e2 : nn 0 281474976710656 = 281474976710656 := rfl
   rw [hon, e2] at hc4
   rw [← hc4]
   generalize cmp4 D.hi D.lo 0 281474976710656 = c
   show decide (c < 0) = !decide (0 ≤ c)
   by_cases hc : c < 0
   ·rw [decide_eq_true hc, decide_eq_false (by omega)]; rfl
   ·rw [decide_eq_false hc, decide_eq_true (by omega)]; rfl
  ·simp only [vals_c, vals_n]
   rw [iv_i h 2 (by decide) rfl, iv_u h 3 (by decide) rfl, v_lit, e75]
   exact f75n (bi h 2 (by decide) rfl) (bu h 3 (by decide) rfl) ⟨by decide, by decide⟩
  ·simp only [vals_c, vals_n]
   rw [iv_i h 14 (by decide) rfl, iv_u h 15 (by decide) rfl, v_lit, e75]
   exact f75n (bi h 14 (by decide) rfl) (bu h 15 (by decide) rfl) ⟨by decide, by decide⟩
  ·simp only [vals_c, vals_n]
   rw [iv_i h 16 (by decide) rfl, iv_u h 17 (by decide) rfl, v_lit, e75]
   exact f75n (bi h 16 (by decide) rfl) (bu h 17 (by decide) rfl) ⟨by decide, by decide⟩
  ·show ((SE.app 84 0 none aB).val (envOf (FT Tr5_T85) zs) != 0) = slowB zs
   rw [v_app, h84', List.getD_cons_zero, wrb, b2i_ne]
  ·refine Eq.trans (tf_go (show ((SE.cmp .eql (.app 84 1 (some .i64) aB) (.lit .i64 0)).val (envOf (FT Tr5_T85) zs) != 0) = true from (by rw [v_cmp, ap_i (i := 1) h84' rfl ker, l_i0, hes hs]; rfl))) ?_
   refine tf_y (ap_y ?_) fun _ => tf_y (ap_y ?_) fun _ => tf_1 (ap_b ?_)
   ·simp only [vals_c, vals_n]
    rw [iv_i h 4 (by decide) rfl, iv_u h 5 (by decide) rfl, iv_i h 6 (by decide) rfl, iv_u h 7 (by decide) rfl]
    exact f85n (bi h 4 (by decide) rfl) (bu h 5 (by decide) rfl) (bi h 6 (by decide) rfl) (bu h 7 (by decide) rfl)
   ·simp only [vals_c, vals_n]
    rw [iv_i h 18 (by decide) rfl, v_lit, v_lit, e51]
    exact f51n (bi h 18 (by decide) rfl) k0 rfl
   ·simp only [vals_c, vals_n]
    rw [iv_i h 19 (by decide) rfl, v_lit, v_lit, e51]
    exact f51n (bi h 19 (by decide) rfl) k0 rfl
end
end Go.Proofs.Ytedfbamihjnhhaa.Own
