/- A world made: whether a body may be, by the document, is the same truth. -/
import Derived.Test.YtedfbamihjnhhaaWmC
import Derived.Test.YtedfbamihjnhhaaTd6
import Derived.Test.YtedfbamihjnhhaaTr7
namespace Go.Proofs.Ytedfbamihjnhhaa.Own
open Go Go.RowKit Go.Proofs Go.Proofs.Ytedfbamihjnhhaa.Plain
set_option linter.unusedVariables false
set_option linter.unusedSectionVars false
set_option linter.unusedSimpArgs false
set_option maxRecDepth 100000
section
variable {F : Nat → List Int → List Int} {zs : List Int} {x y : SE} {q r : Bool}
theorem tf_or (hx : (x.val (envOf F zs) != 0) = q) (hy : y.val (envOf F zs) = b2i r) : treeFn (.ask x (.leaf (.one (.bool true))) (.leaf (.one (.opq y)))) F zs = [b2i (q || r)] := by
 unfold treeFn
 simp only [ST.get, hx]
 cases q with
 | true => rfl
 | false => simp only [cond_false, flatV, List.map, valC, hy, Bool.false_or]
end
theorem f22g {n : Int} (h : -1152921504606846976 ≤ n ∧ n ≤ 1152921504606846976) : FT Tr5_T22 22 [n] = [n, 0] := by
 rw [g22b]
 have w1 : IntKind.i64.wrap n = n := by rw [IntKind.wrap_i64]; omega
 have w2 : IntKind.i64.wrap (-9223372036854775807) = -9223372036854775807 := rfl
 simp only [treeFn, tr22, ST.get, flatV, valC, List.map, SE.val, envOf_iv, List.getD_cons_zero, w1, w2, show decide ((-9223372036854775807 : Int) > n) = false from decide_eq_false (by omega), cond_false]
section
variable {a0 a1 b0 b1 : Int}
theorem f106 (h0 : inK (some .i64) a0) (h1 : inK (some .u64) a1) (h2 : inK (some .i64) b0) (h3 : inK (some .u64) b1) : FT Tr7_T106 106 [a0, a1, b0, b1] = [cmp4 a0 a1 b0 b1] := by
 have g : FT Tr7_T106 106 = treeFn tr106 (FT Tr7_T89) := FT_hd (Tb := Tr7_T106) rfl rfl
 have i0 : (SE.ivar .i64 0).val (envOf (FT Tr7_T89) [a0, a1, b0, b1]) = a0 := by rw [iu_at]; exact h0
 have i1 : (SE.ivar .u64 1).val (envOf (FT Tr7_T89) [a0, a1, b0, b1]) = a1 := by rw [iu_at]; exact h1
 have i2 : (SE.ivar .i64 2).val (envOf (FT Tr7_T89) [a0, a1, b0, b1]) = b0 := by rw [iu_at]; exact h2
 have i3 : (SE.ivar .u64 3).val (envOf (FT Tr7_T89) [a0, a1, b0, b1]) = b1 := by rw [iu_at]; exact h3
 have e1 : ((SE.cmp .lss (.ivar .i64 0) (.ivar .i64 2)).val (envOf (FT Tr7_T89) [a0, a1, b0, b1]) != 0) = decide (a0 < b0) := by rw [v_cmp, i0, i2]; rfl
 have e2 : ((SE.cmp .eql (.ivar .i64 0) (.ivar .i64 2)).val (envOf (FT Tr7_T89) [a0, a1, b0, b1]) != 0) = (a0 == b0) := by rw [v_cmp, i0, i2]; rfl
 have e3 : ((SE.cmp .lss (.ivar .u64 1) (.ivar .u64 3)).val (envOf (FT Tr7_T89) [a0, a1, b0, b1]) != 0) = decide (a1 < b1) := by rw [v_cmp, i1, i3]; rfl
 have e4 : ((SE.and (.cmp .eql (.ivar .i64 0) (.ivar .i64 2)) (.and (.cmp .eql (.ivar .u64 1) (.ivar .u64 3)) (.cmp .eql (.lit .i64 1) (.lit .i64 1)))).val (envOf (FT Tr7_T89) [a0, a1, b0, b1]) != 0) = ((a0 == b0) && ((a1 == b1) && true)) := by
  rw [v_and, v_and, e2, v_cmp, i1, i3, v_cmp, v_lit]; rfl
 have L1 : a0 < b0 → cmp4 a0 a1 b0 b1 = -1 := fun c => by unfold cmp4 cmp2; repeat' split; all_goals omega
 have L2 : a0 = b0 → a1 < b1 → cmp4 a0 a1 b0 b1 = -1 := fun c d => by unfold cmp4 cmp2; repeat' split; all_goals omega
 have L3 : a0 = b0 → a1 = b1 → cmp4 a0 a1 b0 b1 = 0 := fun c d => by unfold cmp4 cmp2; repeat' split; all_goals omega
 have L4 : a0 = b0 → b1 < a1 → cmp4 a0 a1 b0 b1 = 1 := fun c d => by unfold cmp4 cmp2; repeat' split; all_goals omega
 have L5 : b0 < a0 → cmp4 a0 a1 b0 b1 = 1 := fun c => by unfold cmp4 cmp2; repeat' split; all_goals omega
 rw [g]; unfold tr106
 by_cases c1 : a0 < b0
 ·rw [tf_go (by rw [e1]; exact decide_eq_true c1), L1 c1]; rfl
 ·rw [tf_by (by rw [e1]; exact decide_eq_false c1)]
  by_cases c2 : a0 = b0
  ·rw [tf_go (by rw [e2]; exact beq_iff_eq.2 c2)]
   by_cases c3 : a1 < b1
   ·rw [tf_go (by rw [e3]; exact decide_eq_true c3), L2 c2 c3]; rfl
   ·rw [tf_by (by rw [e3]; exact decide_eq_false c3)]
    by_cases c4 : a1 = b1
    ·rw [tf_go (by rw [e4, beq_iff_eq.2 c2, beq_iff_eq.2 c4]; rfl), L3 c2 c4]; rfl
    ·rw [tf_by (by rw [e4, beq_iff_eq.2 c2, beq_eq_false_iff_ne.2 c4]; rfl), L4 c2 (by omega)]; rfl
  ·rw [tf_by (by rw [e2]; exact beq_eq_false_iff_ne.2 c2), tf_by (by rw [e4, beq_eq_false_iff_ne.2 c2]; rfl), L5 (by omega)]; rfl
theorem f89 (h0 : inK (some .i64) a0) (h1 : inK (some .u64) a1) : FT Tr7_T89 89 [a0, a1] = [b2i (mayN a0 a1)] := by
 have g : FT Tr7_T89 89 = treeFn tr89 (FT Tr7_T53) := FT_hd (Tb := Tr7_T89) rfl rfl
 have i0 : (SE.ivar .i64 0).val (envOf (FT Tr7_T53) [a0, a1]) = a0 := by rw [iu_at]; exact h0
 have i1 : (SE.ivar .u64 1).val (envOf (FT Tr7_T53) [a0, a1]) = a1 := by rw [iu_at]; exact h1
 have wm : IntKind.i64.wrap (-9223372036854775808) = -9223372036854775808 := rfl
 have e : mayN a0 a1 = ((a0 != -9223372036854775808) || (a1 != 0)) := by
  unfold mayN; rw [Bool.not_and]; rfl
 rw [g, e]; unfold tr89
 refine tf_or ?_ ?_
 ·rw [v_cmp, i0, v_lit, wm]; rfl
 ·have : (SE.cmp .neq (.ivar .u64 1) (.lit .u64 0)).val (envOf (FT Tr7_T53) [a0, a1]) = b2i (valCmp .neq ((SE.ivar .u64 1).val (envOf (FT Tr7_T53) [a0, a1])) ((SE.lit .u64 0).val (envOf (FT Tr7_T53) [a0, a1]))) := by simp only [SE.val]
  rw [this, i1, v_lit, w0u]; rfl
theorem f88 {l0 l1 m0 m1 : Int} (h0 : inK (some .i64) a0) (h1 : inK (some .u64) a1) (h2 : inK (some .i64) l0) (h3 : inK (some .u64) l1) (h4 : inK (some .i64) m0) (h5 : inK (some .u64) m1) : FT Tr7_T88 88 [a0, a1, l0, l1, m0, m1] = [b2i (inF a0 a1 (nn l0 l1) (nn m0 m1))] := by
 have g : FT Tr7_T88 88 = treeFn tr88 (FT Tr7_T106) := FT_hd (Tb := Tr7_T88) rfl rfl
 have e89 : FT Tr7_T106 89 = FT Tr7_T89 89 := FT_at 1 (by kernel_rfl) (by kernel_rfl)
 have i0 : (SE.ivar .i64 0).val (envOf (FT Tr7_T106) [a0, a1, l0, l1, m0, m1]) = a0 := by rw [iu_at]; exact h0
 have i1 : (SE.ivar .u64 1).val (envOf (FT Tr7_T106) [a0, a1, l0, l1, m0, m1]) = a1 := by rw [iu_at]; exact h1
 have i2 : (SE.ivar .i64 2).val (envOf (FT Tr7_T106) [a0, a1, l0, l1, m0, m1]) = l0 := by rw [iu_at]; exact h2
 have i3 : (SE.ivar .u64 3).val (envOf (FT Tr7_T106) [a0, a1, l0, l1, m0, m1]) = l1 := by rw [iu_at]; exact h3
 have i4 : (SE.ivar .i64 4).val (envOf (FT Tr7_T106) [a0, a1, l0, l1, m0, m1]) = m0 := by rw [iu_at]; exact h4
 have i5 : (SE.ivar .u64 5).val (envOf (FT Tr7_T106) [a0, a1, l0, l1, m0, m1]) = m1 := by rw [iu_at]; exact h5
 have c1 : (SE.app 106 0 (some .i64) (.cons (.ivar .i64 0) (.cons (.ivar .u64 1) (.cons (.ivar .i64 2) (.cons (.ivar .u64 3) .nil))))).val (envOf (FT Tr7_T106) [a0, a1, l0, l1, m0, m1]) = cmp4 a0 a1 l0 l1 := ap_i (l := [cmp4 a0 a1 l0 l1]) (by rw [vals_c, vals_c, vals_c, vals_c, vals_n, i0, i1, i2, i3]; exact f106 h0 h1 h2 h3) rfl (cmp4_in _ _ _ _)
 have c2 : (SE.app 106 0 (some .i64) (.cons (.ivar .i64 0) (.cons (.ivar .u64 1) (.cons (.ivar .i64 4) (.cons (.ivar .u64 5) .nil))))).val (envOf (FT Tr7_T106) [a0, a1, l0, l1, m0, m1]) = cmp4 a0 a1 m0 m1 := ap_i (l := [cmp4 a0 a1 m0 m1]) (by rw [vals_c, vals_c, vals_c, vals_c, vals_n, i0, i1, i4, i5]; exact f106 h0 h1 h4 h5) rfl (cmp4_in _ _ _ _)
 rw [g]; unfold tr88 inF
 rw [← cmp4_ge h1 h3, ← cmp4_le h1 h5]
 refine tf_y (ap_y ?_) fun _ => tf_y ?_ fun _ => tf_1 ?_
 ·rw [vals_c, vals_c, vals_n, i0, i1, e89]; exact f89 h0 h1
 ·rw [v_cmp, l_i0, c1]; rfl
 ·have : (SE.cmp .leq (.app 106 0 (some .i64) (.cons (.ivar .i64 0) (.cons (.ivar .u64 1) (.cons (.ivar .i64 4) (.cons (.ivar .u64 5) .nil))))) (.lit .i64 0)).val (envOf (FT Tr7_T106) [a0, a1, l0, l1, m0, m1]) = b2i (valCmp .leq ((SE.app 106 0 (some .i64) (.cons (.ivar .i64 0) (.cons (.ivar .u64 1) (.cons (.ivar .i64 4) (.cons (.ivar .u64 5) .nil))))).val (envOf (FT Tr7_T106) [a0, a1, l0, l1, m0, m1])) ((SE.lit .i64 0).val (envOf (FT Tr7_T106) [a0, a1, l0, l1, m0, m1]))) := by simp only [SE.val]
  rw [this, l_i0, c2]; rfl
theorem f54 {n : Int} (h0 : inK (some .i64) a0) (h1 : inK (some .u64) a1) (h : 0 ≤ n ∧ n ≤ 1152921504606846976) : FT Tr7_T54 54 [a0, a1, n] = [b2i (inF a0 a1 0 (nn n 0))] := by
 have g : FT Tr7_T54 54 = treeFn tr54 (FT Tr7_T88) := FT_hd (Tb := Tr7_T54) rfl rfl
 have e22 : FT Tr7_T88 22 = FT Tr5_T22 22 := FT_at 56 (by kernel_rfl) (by kernel_rfl)
 have kn : inK (some .i64) n := by show IntKind.i64.wrap n = n; rw [IntKind.wrap_i64]; omega
 have i2 : (SE.ivar .i64 2).val (envOf (FT Tr7_T88) [a0, a1, n]) = n := by rw [iu_at]; exact kn
 have v22 : FT Tr7_T88 22 ((SE.cons (.ivar .i64 2) .nil).vals (envOf (FT Tr7_T88) [a0, a1, n])) = [n, 0] := by rw [vals_c, vals_n, i2, e22, f22g ⟨by omega, h.2⟩]
 have q0 := ap_i (i := 0) (k := .i64) v22 (gd0 _ _ _) kn
 have q1 := ap_i (i := 1) (k := .u64) (v := 0) v22 (gd1 _ _ _ _) rfl
 rw [g]; unfold tr54
 refine tf_1 (ap_b ?_)
 simp only [vals_c, vals_n]
 rw [q0, q1, v_lit, v_lit, iu_at, iu_at]
 simp only [List.getD_cons_zero, List.getD_cons_succ, w_i h0, w_u h1]
 exact f88 h0 h1 rfl rfl kn rfl
theorem f55 (h0 : inK (some .i64) a0) (h1 : inK (some .u64) a1) (h2 : inK (some .i64) b0) (h3 : inK (some .u64) b1) : FT Tr7_T55 55 [a0, a1, b0, b1] = [b2i (mayN a0 a1 && mayN b0 b1)] := by
 have g : FT Tr7_T55 55 = treeFn tr55 (FT Tr7_T54) := FT_hd (Tb := Tr7_T55) rfl rfl
 have e : FT Tr7_T54 89 = FT Tr7_T89 89 := FT_at 3 (by kernel_rfl) (by kernel_rfl)
 rw [g]; unfold tr55
 refine tf_y (ap_y ?_) fun _ => tf_1 (ap_b ?_)
 ·simp only [vals_c, vals_n, iu_at, List.getD_cons_zero, List.getD_cons_succ, w_i h0, w_u h1]; rw [e]; exact f89 h0 h1
 ·simp only [vals_c, vals_n, iu_at, List.getD_cons_zero, List.getD_cons_succ, w_i h2, w_u h3]; rw [e]; exact f89 h2 h3
theorem f53 {c : Int} (h0 : inK (some .i64) a0) (h1 : inK (some .i64) b0) (h2 : inK (some .i64) c) : FT Tr7_T53 53 [a0, b0, c] = [b2i (decide (b0 ≤ a0) && decide (a0 ≤ c))] := by
 have g : FT Tr7_T53 53 = treeFn tr53 (FT TbF_T) := FT_hd (Tb := Tr7_T53) rfl rfl
 rw [g]; unfold tr53
 refine tf_y ?_ fun _ => tf_1 ?_
 ·rw [v_cmp, iu_at, iu_at]; simp only [List.getD_cons_zero, List.getD_cons_succ, w_i h0, w_i h1, valCmp]
 ·simp only [SE.val, envOf_iv, List.getD_cons_zero, List.getD_cons_succ, w_i h0, w_i h2, valCmp]
theorem f131 {n : Int} (h0 : inK (some .i64) a0) (h1 : inK (some .u64) a1) (hn : 0 ≤ n ∧ n ≤ 1152921504606846976) : FT Tr7_T131 131 [a0, a1, n] = [b2i (!nearF (nn a0 a1) n)] := by
 have g : FT Tr7_T131 131 = treeFn tr131 (FT Tr7_T130) := FT_hd (Tb := Tr7_T131) rfl rfl
 have e22 : FT Tr7_T130 22 = FT Tr5_T22 22 := FT_at 63 (by kernel_rfl) (by kernel_rfl)
 have e106 : FT Tr7_T130 106 = FT Tr7_T106 106 := FT_at 8 (by kernel_rfl) (by kernel_rfl)
 have kn : inK (some .i64) n := by show IntKind.i64.wrap n = n; rw [IntKind.wrap_i64]; omega
 have km : inK (some .i64) (-n) := by show IntKind.i64.wrap (-n) = -n; rw [IntKind.wrap_i64]; omega
 have k0 : inK (some .u64) 0 := rfl
 have i0 : (SE.ivar .i64 0).val (envOf (FT Tr7_T130) [a0, a1, n]) = a0 := by rw [iu_at]; exact h0
 have i1 : (SE.ivar .u64 1).val (envOf (FT Tr7_T130) [a0, a1, n]) = a1 := by rw [iu_at]; exact h1
 have i4 : (SE.ivar .i64 2).val (envOf (FT Tr7_T130) [a0, a1, n]) = n := by rw [iu_at]; exact kn
 have im : (SE.bin .sub .i64 (.lit .i64 0) (.ivar .i64 2)).val (envOf (FT Tr7_T130) [a0, a1, n]) = -n := by
  rw [v_bin, v_lit, i4]
  show IntKind.i64.wrap (0 - n) = -n
  rw [IntKind.wrap_i64]; omega
 have p0 : (SE.app 22 0 (some .i64) (.cons (.ivar .i64 2) .nil)).val (envOf (FT Tr7_T130) [a0, a1, n]) = n := ap_i (l := [n, 0]) (by rw [vals_c, vals_n, i4, e22, f22g ⟨by omega, hn.2⟩]) rfl kn
 have p1 : (SE.app 22 1 (some .u64) (.cons (.ivar .i64 2) .nil)).val (envOf (FT Tr7_T130) [a0, a1, n]) = 0 := ap_i (l := [n, 0]) (by rw [vals_c, vals_n, i4, e22, f22g ⟨by omega, hn.2⟩]) rfl k0
 have m0 : (SE.app 22 0 (some .i64) (.cons (.bin .sub .i64 (.lit .i64 0) (.ivar .i64 2)) .nil)).val (envOf (FT Tr7_T130) [a0, a1, n]) = -n := ap_i (l := [-n, 0]) (by rw [vals_c, vals_n, im, e22, f22g ⟨by omega, by omega⟩]) rfl km
 have m1 : (SE.app 22 1 (some .u64) (.cons (.bin .sub .i64 (.lit .i64 0) (.ivar .i64 2)) .nil)).val (envOf (FT Tr7_T130) [a0, a1, n]) = 0 := ap_i (l := [-n, 0]) (by rw [vals_c, vals_n, im, e22, f22g ⟨by omega, by omega⟩]) rfl k0
 have c : ∀ {x y s t : SE} {u0 u1 w0 w1 : Int}, x.val (envOf (FT Tr7_T130) [a0, a1, n]) = u0 → y.val (envOf (FT Tr7_T130) [a0, a1, n]) = u1 → s.val (envOf (FT Tr7_T130) [a0, a1, n]) = w0 → t.val (envOf (FT Tr7_T130) [a0, a1, n]) = w1 → inK (some .i64) u0 → inK (some .u64) u1 → inK (some .i64) w0 → inK (some .u64) w1 → (SE.app 106 0 (some .i64) (.cons x (.cons y (.cons s (.cons t .nil))))).val (envOf (FT Tr7_T130) [a0, a1, n]) = cmp4 u0 u1 w0 w1 := by
  intro x y s t u0 u1 w0 w1 hx hy hs ht k1 k2 k3 k4
  exact ap_i (l := [cmp4 u0 u1 w0 w1]) (by rw [vals_c, vals_c, vals_c, vals_c, vals_n, hx, hy, hs, ht, e106, f106 k1 k2 k3 k4]) rfl (cmp4_in _ _ _ _)
 have fin : (!nearF (nn a0 a1) n) = (decide (cmp4 a0 a1 n 0 > 0) || decide (cmp4 a0 a1 (-n) 0 < 0)) := by
  unfold nearF
  rw [← cmp4_le (a0 := a0) (b0 := n) h1 k0, ← cmp4_ge (a0 := a0) (b0 := -n) h1 k0, Bool.not_and]
  congr 1
  ·by_cases q : cmp4 a0 a1 n 0 ≤ 0
   ·rw [decide_eq_true q, decide_eq_false (show ¬ cmp4 a0 a1 n 0 > 0 by omega)]; rfl
   ·rw [decide_eq_false q, decide_eq_true (show cmp4 a0 a1 n 0 > 0 by omega)]; rfl
  ·by_cases q : 0 ≤ cmp4 a0 a1 (-n) 0
   ·rw [decide_eq_true q, decide_eq_false (show ¬ cmp4 a0 a1 (-n) 0 < 0 by omega)]; rfl
   ·rw [decide_eq_false q, decide_eq_true (show cmp4 a0 a1 (-n) 0 < 0 by omega)]; rfl
 rw [g, fin]; unfold tr131
 refine tf_or ?_ ?_
 ·rw [v_cmp, c i0 i1 p0 p1 h0 h1 kn k0, l_i0]; rfl
 ·have e : ∀ A : SE, (SE.cmp .lss A (.lit .i64 0)).val (envOf (FT Tr7_T130) [a0, a1, n]) = b2i (valCmp .lss (A.val (envOf (FT Tr7_T130) [a0, a1, n])) ((SE.lit .i64 0).val (envOf (FT Tr7_T130) [a0, a1, n]))) := fun A => by simp only [SE.val]
  rw [e, c i0 i1 m0 m1 h0 h1 km k0, l_i0]; rfl
theorem f109 (h0 : inK (some .i64) a0) (h1 : inK (some .u64) a1) (h2 : inK (some .i64) b0) (h3 : inK (some .u64) b1) : FT Tr7_T109 109 [a0, a1, b0, b1] = [b2i (nearF (nn a0 a1) 1073741824 && nearF (nn b0 b1) 1073741824)] := by
 have g : FT Tr7_T109 109 = treeFn tr109 (FT Tr7_T108) := FT_hd (Tb := Tr7_T109) rfl rfl
 have e : FT Tr7_T108 131 = FT Tr7_T131 131 := FT_at 2 (by kernel_rfl) (by kernel_rfl)
 have r1 : FT Tr7_T108 131 ((SE.cons (.ivar .i64 0) (.cons (.ivar .u64 1) (.cons (.lit .i64 1073741824) .nil))).vals (envOf (FT Tr7_T108) [a0, a1, b0, b1])) = [b2i (!nearF (nn a0 a1) 1073741824)] := by
  simp only [vals_c, vals_n, iu_at, List.getD_cons_zero, List.getD_cons_succ, w_i h0, w_u h1, v_lit]; rw [e]; exact f131 h0 h1 ⟨by decide, by decide⟩
 have r2 : FT Tr7_T108 131 ((SE.cons (.ivar .i64 2) (.cons (.ivar .u64 3) (.cons (.lit .i64 1073741824) .nil))).vals (envOf (FT Tr7_T108) [a0, a1, b0, b1])) = [b2i (!nearF (nn b0 b1) 1073741824)] := by
  simp only [vals_c, vals_n, iu_at, List.getD_cons_zero, List.getD_cons_succ, w_i h2, w_u h3, v_lit]; rw [e]; exact f131 h2 h3 ⟨by decide, by decide⟩
 rw [g]; unfold tr109
 refine tf_y ?_ fun _ => tf_1 ?_
 ·rw [ap_n r1, Bool.not_not]
 ·have : ∀ A : SE, (SE.not A).val (envOf (FT Tr7_T108) [a0, a1, b0, b1]) = b2i (!(A.val (envOf (FT Tr7_T108) [a0, a1, b0, b1]) != 0)) := fun A => by simp only [SE.val]
  rw [this, ap_b r2, b2i_ne, Bool.not_not]
end
section
variable {a0 a1 b0 b1 : Int}
theorem val2_int (a b : Nat) : ((val2 a b : Nat) : Int) = nn a b := by unfold val2 nn; omega
theorem f73p (h0 : 0 ≤ a0 ∧ a0 < 9223372036854775808) (h1 : inK (some .u64) a1) : FT Tr7_T73 73 [a0, a1] = [(Fx.of (-(nn a0 a1))).hi, (Fx.of (-(nn a0 a1))).lo] := by
 have g : FT Tr7_T73 73 = treeFn tr73 (FT Tr7_T55) := FT_hd (Tb := Tr7_T73) rfl rfl
 have e36 : FT Tr7_T55 36 = FT Tr6_T 36 := FT_at 9 (by kernel_rfl) (by kernel_rfl)
 have b1 := in_u h1
 obtain ⟨n0, rfl⟩ := Int.eq_ofNat_of_zero_le h0.1
 obtain ⟨n1, rfl⟩ := Int.eq_ofNat_of_zero_le b1.1
 have hk : inK (some .i64) (n0 : Int) := by show IntKind.i64.wrap _ = _; rw [IntKind.wrap_i64]; omega
 have hu : IntKind.u64.wrap (n0 : Int) = (n0 : Int) := by rw [IntKind.wrap_u64]; omega
 have hv := f36 0 0 n0 n1 (by decide) (by decide) (by omega) (by omega)
 have z2 : val2 0 0 = 0 := by unfold val2; rw [Nat.zero_mul]
 rw [z2] at hv
 have hlt : val2 n0 n1 < 340282366920938463463374607431768211456 := by unfold val2; omega
 have eb := val2_int n0 n1
 have ob := of_bits2 (z := -(nn n0 n1)) (T := Two.of (0 + 340282366920938463463374607431768211456 - val2 n0 n1)) (by
  rw [Two.of_n, ← eb]
  generalize val2 n0 n1 = V at *
  by_cases c : V = 0
  ·exact ⟨0, by omega⟩
  ·exact ⟨1, by omega⟩)
 have ho := of_in (-(nn n0 n1))
 rw [← ob.1, ← ob.2]
 have w1 := wrd_lt 1 (0 + 340282366920938463463374607431768211456 - val2 n0 n1)
 have w0 := wrd_lt 0 (0 + 340282366920938463463374607431768211456 - val2 n0 n1)
 have t1 : (Two.of (0 + 340282366920938463463374607431768211456 - val2 n0 n1)).hi = ((wrd 1 (0 + 340282366920938463463374607431768211456 - val2 n0 n1) : Nat) : Int) := rfl
 have t0 : (Two.of (0 + 340282366920938463463374607431768211456 - val2 n0 n1)).lo = ((wrd 0 (0 + 340282366920938463463374607431768211456 - val2 n0 n1) : Nat) : Int) := rfl
 rw [t1, t0]
 clear ob t1 t0 eb hlt ho
 generalize wrd 1 (0 + 340282366920938463463374607431768211456 - val2 n0 n1) = W1 at *
 generalize wrd 0 (0 + 340282366920938463463374607431768211456 - val2 n0 n1) = W0 at *
 generalize decide (0 < val2 n0 n1) = bb at *
 have hf : FT Tr7_T55 36 ((SE.cons (.lit .u64 0) (.cons (.lit .u64 0) (.cons (.conv .u64 (.ivar .i64 0)) (.cons (.ivar .u64 1) .nil)))).vals (envOf (FT Tr7_T55) [(n0 : Int), (n1 : Int)])) = [(W1 : Int), (W0 : Int), b2i bb] := by
  have cv : (SE.conv .u64 (.ivar .i64 0)).val (envOf (FT Tr7_T55) [(n0 : Int), (n1 : Int)]) = (n0 : Int) := by
   have : (SE.conv .u64 (.ivar .i64 0)).val (envOf (FT Tr7_T55) [(n0 : Int), (n1 : Int)]) = IntKind.u64.wrap ((SE.ivar .i64 0).val (envOf (FT Tr7_T55) [(n0 : Int), (n1 : Int)])) := by simp only [SE.val]
   rw [this, iu_at, List.getD_cons_zero, w_i hk, hu]
  rw [vals_c, vals_c, vals_c, vals_c, vals_n, cv, v_lit, w0u, iu_at, List.getD_cons_succ, List.getD_cons_zero, w_u h1, e36]
  exact hv
 have k1 : inK (some .u64) (W1 : Int) := nat_w w1
 have k0 : inK (some .u64) (W0 : Int) := nat_w w0
 rw [g]
 unfold treeFn
 simp only [tr73, ST.get, flatV, List.map, valC]
 have cv : ∀ x : SE, (SE.conv .i64 x).val (envOf (FT Tr7_T55) [(n0 : Int), (n1 : Int)]) = IntKind.i64.wrap (x.val (envOf (FT Tr7_T55) [(n0 : Int), (n1 : Int)])) := fun x => by simp only [SE.val]
 rw [cv, ap_i (i := 0) hf (gd0 _ _ _) k1, ap_i (i := 1) hf (gd1 _ _ _ _) k0]
theorem fx_ne {z : Int} (h : -170141183460469231731687303715884105728 < z ∧ z < 170141183460469231731687303715884105728) : (Fx.of z).n ≠ -170141183460469231731687303715884105728 := by
 rw [Fx.of_n z (by omega)]; omega
theorem f108p (h0 : 0 ≤ a0 ∧ a0 < 9223372036854775808) (h1 : inK (some .u64) a1) (h2 : 0 ≤ b0 ∧ b0 < 9223372036854775808) (h3 : inK (some .u64) b1) : FT Tr7_T108 108 [a0, a1, b0, b1] = [(Fx.of (nn a0 a1 - nn b0 b1)).hi, (Fx.of (nn a0 a1 - nn b0 b1)).lo, 0] := by
 have g : FT Tr7_T108 108 = treeFn tr108 (FT Tr7_T107) := FT_hd (Tb := Tr7_T108) rfl rfl
 have e73 : FT Tr7_T107 73 = FT Tr7_T73 73 := FT_at 6 (by kernel_rfl) (by kernel_rfl)
 have e19 : FT Tr7_T107 19 = gRadd := by
  have a : FT Tr7_T107 19 = FT TbH_T 19 := FT_at 71 (by kernel_rfl) (by kernel_rfl)
  have b : FT TbH_T 19 = gRadd := by kernel_rfl
  exact a.trans b
 have ka : inK (some .i64) a0 := by show IntKind.i64.wrap a0 = a0; rw [IntKind.wrap_i64]; omega
 have kb : inK (some .i64) b0 := by show IntKind.i64.wrap b0 = b0; rw [IntKind.wrap_i64]; omega
 have u1 := in_u h1
 have u3 := in_u h3
 have ho := of_in (-(nn b0 b1))
 have hp := of_in (nn a0 a1 - nn b0 b1)
 have hs : gRadd [a0, a1, (Fx.of (-(nn b0 b1))).hi, (Fx.of (-(nn b0 b1))).lo] = [(Fx.of (nn a0 a1 - nn b0 b1)).hi, (Fx.of (nn a0 a1 - nn b0 b1)).lo, 0] := by
  have hr : -170141183460469231731687303715884105728 < -(nn b0 b1) ∧ -(nn b0 b1) < 170141183460469231731687303715884105728 := by unfold nn; omega
  have e1 : (fxW a0 a1).n = nn a0 a1 := fxW_n ka h1
  have e2 : (Fx.of (-(nn b0 b1))).n = -(nn b0 b1) := Fx.of_n _ (by omega)
  have n1 : (fxW a0 a1).n ≠ -170141183460469231731687303715884105728 := by rw [e1]; unfold nn; omega
  have hf := fadd_small (fxW a0 a1) (Fx.of (-(nn b0 b1))) (by rw [e1, e2]; unfold nn; omega)
  rw [e1, e2, ← Int.sub_eq_add_neg, ← radd_eq _ _ n1 (fx_ne hr)] at hf
  unfold gRadd
  simp only [List.getD_cons_zero, List.getD_cons_succ]
  rw [fxW_of (by omega), hf]
 have v73 := f73p h2 h3
 generalize Fx.of (nn a0 a1 - nn b0 b1) = D at *
 generalize Fx.of (-(nn b0 b1)) = E at *
 have hE : FT Tr7_T107 73 ((SE.cons (.ivar .i64 2) (.cons (.ivar .u64 3) .nil)).vals (envOf (FT Tr7_T107) [a0, a1, b0, b1])) = [E.hi, E.lo] := by
  rw [vals_c, vals_c, vals_n, iu_at, iu_at]
  simp only [List.getD_cons_zero, List.getD_cons_succ, w_i kb, w_u h3]
  rw [e73, v73]
 have gdE : [E.hi, E.lo].getD 1 0 = E.lo := by rw [List.getD_cons_succ, List.getD_cons_zero]
 have hD : FT Tr7_T107 19 ((SE.cons (.ivar .i64 0) (.cons (.ivar .u64 1) (.cons (.app 73 0 (some .i64) (.cons (.ivar .i64 2) (.cons (.ivar .u64 3) .nil))) (.cons (.app 73 1 (some .u64) (.cons (.ivar .i64 2) (.cons (.ivar .u64 3) .nil))) .nil)))).vals (envOf (FT Tr7_T107) [a0, a1, b0, b1])) = [D.hi, D.lo, 0] := by
  rw [vals_c, vals_c, vals_c, vals_c, vals_n, ap_i (i := 0) hE (gd0 _ _ _) ho.1, ap_i (i := 1) hE gdE ho.2, iu_at, iu_at]
  simp only [List.getD_cons_zero, List.getD_cons_succ, w_i ka, w_u h1]
  rw [e19, hs]
 rw [g]
 unfold treeFn
 simp only [tr108, ST.get, flatV, List.map, valC]
 rw [ap_i (i := 0) hD (gd0 _ _ _) hp.1, ap_i (i := 1) hD (gd1 _ _ _ _) hp.2, ap_i (i := 2) (k := .i64) hD (gd2 _ _ _ _ _) rfl]
end
section
variable {zs : List Int} (h : BdIn zs)
include h
theorem f130n (hm : 0 ≤ nn (zs.getD 0 0) (zs.getD 1 0) ∧ nn (zs.getD 0 0) (zs.getD 1 0) < 170141183460469231731687303715884105728) : FT Tr7_T130 130 zs = spV (zs.getD 8 0) (zs.getD 9 0) (zs.getD 10 0) (zs.getD 11 0) (zs.getD 0 0) (zs.getD 1 0) := by
 have g : FT Tr7_T130 130 = treeFn tr130 (FT Tr7_T33) := FT_hd (Tb := Tr7_T130) rfl rfl
 have e140 : FT Tr7_T33 140 = gRdiv := by
  have a : FT Tr7_T33 140 = FT TbF_T 140 := FT_at 10 (by kernel_rfl) (by kernel_rfl)
  have b : FT TbF_T 140 = gRdiv := FT_hd (Tb := TbF_T) rfl rfl
  exact a.trans b
 have hmag : (fxW (zs.getD 0 0) (zs.getD 1 0)).mag.n < 170141183460469231731687303715884105728 := by
  rw [Fx.mag_n, fxW_n (bi h 0 (by decide) rfl) (bu h 1 (by decide) rfl)]
  unfold nn at hm; omega
 have rq : ∀ x y : Int, gRdiv [x, y, zs.getD 0 0, zs.getD 1 0] = [(qV x y (zs.getD 0 0) (zs.getD 1 0)).1.hi, (qV x y (zs.getD 0 0) (zs.getD 1 0)).1.lo, (qV x y (zs.getD 0 0) (zs.getD 1 0)).2] := fun x y => by
  unfold qV
  rw [← rdiv_eq _ _ hmag]
  exact gRdiv_eq x y _ _
 have d1 := rq (zs.getD 8 0) (zs.getD 9 0)
 have d2 := rq (zs.getD 10 0) (zs.getD 11 0)
 have k0 := q_in (zs.getD 8 0) (zs.getD 9 0) (zs.getD 0 0) (zs.getD 1 0)
 have k1 := q_in (zs.getD 10 0) (zs.getD 11 0) (zs.getD 0 0) (zs.getD 1 0)
 have ke := q_err (zs.getD 8 0) (zs.getD 9 0) (zs.getD 0 0) (zs.getD 1 0)
 have kf := q_err (zs.getD 10 0) (zs.getD 11 0) (zs.getD 0 0) (zs.getD 1 0)
 unfold spV
 clear rq hmag
 generalize qV (zs.getD 8 0) (zs.getD 9 0) (zs.getD 0 0) (zs.getD 1 0) = A at *
 generalize qV (zs.getD 10 0) (zs.getD 11 0) (zs.getD 0 0) (zs.getD 1 0) = B at *
 have hfA : FT Tr7_T33 140 ((SE.cons (.ivar .i64 8) (.cons (.ivar .u64 9) (.cons (.ivar .i64 0) (.cons (.ivar .u64 1) .nil)))).vals (envOf (FT Tr7_T33) zs)) = [A.1.hi, A.1.lo, A.2] := by
  rw [vals_c, vals_c, vals_c, vals_c, vals_n, iv_i h 8 (by decide) rfl, iv_u h 9 (by decide) rfl, iv_i h 0 (by decide) rfl, iv_u h 1 (by decide) rfl, e140, d1]
 have hfB : FT Tr7_T33 140 ((SE.cons (.ivar .i64 10) (.cons (.ivar .u64 11) (.cons (.ivar .i64 0) (.cons (.ivar .u64 1) .nil)))).vals (envOf (FT Tr7_T33) zs)) = [B.1.hi, B.1.lo, B.2] := by
  rw [vals_c, vals_c, vals_c, vals_c, vals_n, iv_i h 10 (by decide) rfl, iv_u h 11 (by decide) rfl, iv_i h 0 (by decide) rfl, iv_u h 1 (by decide) rfl, e140, d2]
 have A0 := ap_i (i := 0) hfA (gd0 _ _ _) k0.1
 have A1 := ap_i (i := 1) hfA (gd1 _ _ _ _) k0.2
 have A2 := ap_i (i := 2) hfA (gd2 _ _ _ _ _) ke
 have B0 := ap_i (i := 0) hfB (gd0 _ _ _) k1.1
 have B1 := ap_i (i := 1) hfB (gd1 _ _ _ _) k1.2
 have B2 := ap_i (i := 2) hfB (gd2 _ _ _ _ _) kf
 have cn : ∀ (x : SE) (v : Int), x.val (envOf (FT Tr7_T33) zs) = v → ((SE.cmp .neq x (.lit .i64 0)).val (envOf (FT Tr7_T33) zs) != 0) = (v != 0) := fun x v hx => by rw [v_cmp, hx, l_i0]; rfl
 rw [g]; unfold tr130
 by_cases z1 : A.2 = 0
 ·rw [if_pos z1, tf_by (by rw [cn _ _ A2, z1]; rfl)]
  by_cases z2 : B.2 = 0
  ·rw [if_pos z2, tf_by (by rw [cn _ _ B2, z2]; rfl)]
   unfold treeFn
   simp only [ST.get, flatV, List.map, valC]
   rw [A0, A1, B0, B1]
  ·rw [if_neg z2, tf_go (by rw [cn _ _ B2]; exact bne_iff_ne.2 z2)]
   unfold treeFn
   simp only [ST.get, flatV, List.map, valC]
   rw [B2]
 ·rw [if_neg z1, tf_go (by rw [cn _ _ A2]; exact bne_iff_ne.2 z1)]
  unfold treeFn
  simp only [ST.get, flatV, List.map, valC]
  rw [A2]
theorem f107n (hm : 0 ≤ nn (zs.getD 0 0) (zs.getD 1 0) ∧ nn (zs.getD 0 0) (zs.getD 1 0) < 170141183460469231731687303715884105728) : ∃ e, FT Tr7_T107 107 zs = [b2i (slowB zs), e] := by
 have g : FT Tr7_T107 107 = treeFn tr107 (FT Tr7_T131) := FT_hd (Tb := Tr7_T107) rfl rfl
 have e130 : FT Tr7_T131 130 = FT Tr7_T130 130 := FT_at 1 (by kernel_rfl) (by kernel_rfl)
 have a8 : (al zs).getD 8 0 = zs.getD 8 0 := rfl
 have a9 : (al zs).getD 9 0 = zs.getD 9 0 := rfl
 have a10 : (al zs).getD 10 0 = zs.getD 10 0 := rfl
 have a11 : (al zs).getD 11 0 = zs.getD 11 0 := rfl
 have a0 : (al zs).getD 0 0 = zs.getD 0 0 := rfl
 have a1 : (al zs).getD 1 0 = zs.getD 1 0 := rfl
 have hv := f130n (al_in h) (by rw [a0, a1]; exact hm)
 obtain ⟨r0, r1, r2, r3, r4, e, k0, k1, k2, k3, k4, hs⟩ := spV_in (zs.getD 8 0) (zs.getD 9 0) (zs.getD 10 0) (zs.getD 11 0) (zs.getD 0 0) (zs.getD 1 0)
 rw [a8, a9, a10, a11, a0, a1, e] at hv
 rw [← slow_eq] at hs
 have hf : FT Tr7_T131 130 (aB.vals (envOf (FT Tr7_T131) zs)) = [r0, r1, r2, r3, r4] := by rw [aB_v h, e130, hv]
 have t : tr107 = .ask (.cmp .neq (.app 130 4 (some .i64) aB) (.lit .i64 0)) (.leaf (.agg [.bool false, .opq (.app 130 4 (some .i64) aB)])) (.ask (.not (.app 131 0 none (.cons (.app 130 0 (some .i64) aB) (.cons (.app 130 1 (some .u64) aB) (.cons (.lit .i64 65536) .nil))))) (.leaf (.agg [.opq (.not (.app 131 0 none (.cons (.app 130 2 (some .i64) aB) (.cons (.app 130 3 (some .u64) aB) (.cons (.lit .i64 65536) .nil))))), .int .i64 0])) (.leaf (.agg [.bool false, .int .i64 0]))) := rfl
 have q : ((SE.cmp .neq (.app 130 4 (some .i64) aB) (.lit .i64 0)).val (envOf (FT Tr7_T131) zs) != 0) = (r4 != 0) := by
  rw [v_cmp, ap_i (i := 4) hf rfl k4, l_i0]; rfl
 have b1 : FT Tr7_T131 131 ((SE.cons (.app 130 0 (some .i64) aB) (.cons (.app 130 1 (some .u64) aB) (.cons (.lit .i64 65536) .nil))).vals (envOf (FT Tr7_T131) zs)) = [b2i (!nearF (nn r0 r1) 65536)] := by
  rw [vals_c, vals_c, vals_c, vals_n, ap_i (i := 0) hf rfl k0, ap_i (i := 1) hf rfl k1, v_lit]
  exact f131 k0 k1 ⟨by decide, by decide⟩
 have b2 : FT Tr7_T131 131 ((SE.cons (.app 130 2 (some .i64) aB) (.cons (.app 130 3 (some .u64) aB) (.cons (.lit .i64 65536) .nil))).vals (envOf (FT Tr7_T131) zs)) = [b2i (!nearF (nn r2 r3) 65536)] := by
  rw [vals_c, vals_c, vals_c, vals_n, ap_i (i := 2) hf rfl k2, ap_i (i := 3) hf rfl k3, v_lit]
  exact f131 k2 k3 ⟨by decide, by decide⟩
 have nt : (SE.not (.app 131 0 none (.cons (.app 130 2 (some .i64) aB) (.cons (.app 130 3 (some .u64) aB) (.cons (.lit .i64 65536) .nil))))).val (envOf (FT Tr7_T131) zs) = b2i (nearF (nn r2 r3) 65536) := by
  have : ∀ A : SE, (SE.not A).val (envOf (FT Tr7_T131) zs) = b2i (!(A.val (envOf (FT Tr7_T131) zs) != 0)) := fun A => by simp only [SE.val]
  rw [this, ap_b b2, b2i_ne, Bool.not_not]
 rw [g, t, hs]
 by_cases z : r4 = 0
 ·subst z
  rw [if_pos rfl, tf_by (by rw [q]; rfl)]
  cases hn : nearF (nn r0 r1) 65536 with
  | true =>
   rw [tf_go (by rw [ap_n b1, hn]; rfl)]
   refine ⟨0, ?_⟩
   unfold treeFn
   simp only [ST.get, flatV, List.map, valC]
   rw [nt, Bool.true_and]
  | false =>
   rw [tf_by (by rw [ap_n b1, hn]; rfl)]
   exact ⟨0, rfl⟩
 ·rw [if_neg z, tf_go (by rw [q]; exact bne_iff_ne.2 z)]
  refine ⟨r4, ?_⟩
  unfold treeFn
  simp only [ST.get, flatV, List.map, valC]
  rw [ap_i (i := 4) hf rfl k4]; rfl
end
section
variable {zs : List Int} (h : BdIn zs)
include h
theorem f90n : FT Tr7_T90 90 zs = [b2i (mayB zs)] := by
 have g : FT Tr7_T90 90 = treeFn tr90 (FT Tr7_T109) := FT_hd (Tb := Tr7_T90) rfl rfl
 have e88 : FT Tr7_T109 88 = FT Tr7_T88 88 := FT_at 11 (by kernel_rfl) (by kernel_rfl)
 have e54 : FT Tr7_T109 54 = FT Tr7_T54 54 := FT_at 10 (by kernel_rfl) (by kernel_rfl)
 have e55 : FT Tr7_T109 55 = FT Tr7_T55 55 := FT_at 9 (by kernel_rfl) (by kernel_rfl)
 have e106 : FT Tr7_T109 106 = FT Tr7_T106 106 := FT_at 12 (by kernel_rfl) (by kernel_rfl)
 have e108 : FT Tr7_T109 108 = FT Tr7_T108 108 := FT_at 1 (by kernel_rfl) (by kernel_rfl)
 have e107 : FT Tr7_T109 107 = FT Tr7_T107 107 := FT_at 2 (by kernel_rfl) (by kernel_rfl)
 have e53 : FT Tr7_T109 53 = FT Tr7_T53 53 := FT_at 14 (by kernel_rfl) (by kernel_rfl)
 have k0 : inK (some .i64) 0 := rfl
 have u0 : inK (some .u64) 0 := rfl
 have ul : inK (some .u64) 281474976710656 := rfl
 have km : inK (some .i64) 1048576 := rfl
 have fin : mayB zs = (inF (zs.getD 0 0) (zs.getD 1 0) 281474976710656 (nn 1048576 0) && (inF (zs.getD 2 0) (zs.getD 3 0) 0 (nn 65536 0) && (inF (zs.getD 12 0) (zs.getD 13 0) 0 (nn (zs.getD 0 0) (zs.getD 1 0)) && (inF (zs.getD 14 0) (zs.getD 15 0) 0 (nn 65536 0) && (inF (zs.getD 16 0) (zs.getD 17 0) 0 (nn 65536 0) &&
   ((mayN (zs.getD 4 0) (zs.getD 5 0) && mayN (zs.getD 6 0) (zs.getD 7 0)) && ((mayN (zs.getD 8 0) (zs.getD 9 0) && mayN (zs.getD 10 0) (zs.getD 11 0)) && (decide (281474976710656 ≤ nn (zs.getD 0 0) (zs.getD 1 0) - nn (zs.getD 12 0) (zs.getD 13 0)) &&
   ((nearF (nn (zs.getD 4 0) (zs.getD 5 0)) 1073741824 && nearF (nn (zs.getD 6 0) (zs.getD 7 0)) 1073741824) && (slowB zs && ((decide (0 ≤ zs.getD 18 0) && decide (zs.getD 18 0 ≤ 100)) && (decide (0 ≤ zs.getD 19 0) && decide (zs.getD 19 0 ≤ 65535))))))))))))) := by
  unfold mayB
  generalize inF (zs.getD 0 0) (zs.getD 1 0) 281474976710656 (nn 1048576 0) = A1
  generalize inF (zs.getD 2 0) (zs.getD 3 0) 0 (nn 65536 0) = A2
  generalize inF (zs.getD 12 0) (zs.getD 13 0) 0 (nn (zs.getD 0 0) (zs.getD 1 0)) = A3
  generalize inF (zs.getD 14 0) (zs.getD 15 0) 0 (nn 65536 0) = A4
  generalize inF (zs.getD 16 0) (zs.getD 17 0) 0 (nn 65536 0) = A5
  generalize (mayN (zs.getD 4 0) (zs.getD 5 0) && mayN (zs.getD 6 0) (zs.getD 7 0)) = A6
  generalize (mayN (zs.getD 8 0) (zs.getD 9 0) && mayN (zs.getD 10 0) (zs.getD 11 0)) = A7
  generalize decide (281474976710656 ≤ nn (zs.getD 0 0) (zs.getD 1 0) - nn (zs.getD 12 0) (zs.getD 13 0)) = A8
  generalize (nearF (nn (zs.getD 4 0) (zs.getD 5 0)) 1073741824 && nearF (nn (zs.getD 6 0) (zs.getD 7 0)) 1073741824) = A9
  generalize slowB zs = A10
  generalize (decide (0 ≤ zs.getD 18 0) && decide (zs.getD 18 0 ≤ 100)) = A11
  generalize (decide (0 ≤ zs.getD 19 0) && decide (zs.getD 19 0 ≤ 65535)) = A12
  simp only [Bool.and_comm, Bool.and_left_comm]
 rw [g, fin]; unfold tr90
 refine tf_n (ap_n ?_) fun hm => tf_n (ap_n ?_) fun _ => tf_n (ap_n ?_) fun hf => tf_n (ap_n ?_) fun _ => tf_n (ap_n ?_) fun _ => tf_n (ap_n ?_) fun _ => tf_n (ap_n ?_) fun _ => ?_
 ·simp only [vals_c, vals_n]
  rw [iv_i h 0 (by decide) rfl, iv_u h 1 (by decide) rfl, v_lit, v_lit, v_lit, v_lit, e88]
  exact f88 (bi h 0 (by decide) rfl) (bu h 1 (by decide) rfl) k0 ul km u0
 ·simp only [vals_c, vals_n]
  rw [iv_i h 2 (by decide) rfl, iv_u h 3 (by decide) rfl, v_lit, e54]
  exact f54 (bi h 2 (by decide) rfl) (bu h 3 (by decide) rfl) ⟨by decide, by decide⟩
 ·simp only [vals_c, vals_n]
  rw [iv_i h 12 (by decide) rfl, iv_u h 13 (by decide) rfl, iv_i h 0 (by decide) rfl, iv_u h 1 (by decide) rfl, v_lit, v_lit, e88]
  exact f88 (bi h 12 (by decide) rfl) (bu h 13 (by decide) rfl) k0 u0 (bi h 0 (by decide) rfl) (bu h 1 (by decide) rfl)
 ·simp only [vals_c, vals_n]
  rw [iv_i h 14 (by decide) rfl, iv_u h 15 (by decide) rfl, v_lit, e54]
  exact f54 (bi h 14 (by decide) rfl) (bu h 15 (by decide) rfl) ⟨by decide, by decide⟩
 ·simp only [vals_c, vals_n]
  rw [iv_i h 16 (by decide) rfl, iv_u h 17 (by decide) rfl, v_lit, e54]
  exact f54 (bi h 16 (by decide) rfl) (bu h 17 (by decide) rfl) ⟨by decide, by decide⟩
 ·simp only [vals_c, vals_n]
  rw [iv_i h 4 (by decide) rfl, iv_u h 5 (by decide) rfl, iv_i h 6 (by decide) rfl, iv_u h 7 (by decide) rfl, e55]
  exact f55 (bi h 4 (by decide) rfl) (bu h 5 (by decide) rfl) (bi h 6 (by decide) rfl) (bu h 7 (by decide) rfl)
 ·simp only [vals_c, vals_n]
  rw [iv_i h 8 (by decide) rfl, iv_u h 9 (by decide) rfl, iv_i h 10 (by decide) rfl, iv_u h 11 (by decide) rfl, e55]
  exact f55 (bi h 8 (by decide) rfl) (bu h 9 (by decide) rfl) (bi h 10 (by decide) rfl) (bu h 11 (by decide) rfl)
 ·have b1 := in_u (bu h 1 (by decide) rfl)
  have b13 := in_u (bu h 13 (by decide) rfl)
  unfold inF at hm hf
  simp only [Bool.and_eq_true, decide_eq_true_eq] at hm hf
  have p0 : 0 ≤ zs.getD 0 0 ∧ zs.getD 0 0 < 9223372036854775808 := by have := hm.2; unfold nn at this; omega
  have p12 : 0 ≤ zs.getD 12 0 ∧ zs.getD 12 0 < 9223372036854775808 := by have h1 := hf.2; have h2 := hm.2; unfold nn at h1 h2; omega
  have hmm : 0 ≤ nn (zs.getD 0 0) (zs.getD 1 0) ∧ nn (zs.getD 0 0) (zs.getD 1 0) < 170141183460469231731687303715884105728 := by
   have h2 := hm.2
   have e : nn 1048576 0 = 19342813113834066795298816 := rfl
   rw [e] at h2; omega
  have a0 : (al zs).getD 0 0 = zs.getD 0 0 := rfl
  have a1 : (al zs).getD 1 0 = zs.getD 1 0 := rfl
  obtain ⟨er, h107⟩ := f107n (al_in h) (by rw [a0, a1]; exact hmm)
  rw [slow_al] at h107
  have h107' : FT Tr7_T109 107 (aB.vals (envOf (FT Tr7_T109) zs)) = [b2i (slowB zs), er] := by rw [aB_v h, e107]; exact h107
  have h108 := f108p p0 (bu h 1 (by decide) rfl) p12 (bu h 13 (by decide) rfl)
  have ho := of_in (nn (zs.getD 0 0) (zs.getD 1 0) - nn (zs.getD 12 0) (zs.getD 13 0))
  have hon : nn (Fx.of (nn (zs.getD 0 0) (zs.getD 1 0) - nn (zs.getD 12 0) (zs.getD 13 0))).hi (Fx.of (nn (zs.getD 0 0) (zs.getD 1 0) - nn (zs.getD 12 0) (zs.getD 13 0))).lo = nn (zs.getD 0 0) (zs.getD 1 0) - nn (zs.getD 12 0) (zs.getD 13 0) :=
   Fx.of_n _ (by have h1 := hf.2; have h2 := hm.2; unfold nn at h1 h2 ⊢; omega)
  generalize Fx.of (nn (zs.getD 0 0) (zs.getD 1 0) - nn (zs.getD 12 0) (zs.getD 13 0)) = D at *
  have v108 : FT Tr7_T109 108 ((SE.cons (.ivar .i64 0) (.cons (.ivar .u64 1) (.cons (.ivar .i64 12) (.cons (.ivar .u64 13) .nil)))).vals (envOf (FT Tr7_T109) zs)) = [D.hi, D.lo, 0] := by
   simp only [vals_c, vals_n]
   rw [iv_i h 0 (by decide) rfl, iv_u h 1 (by decide) rfl, iv_i h 12 (by decide) rfl, iv_u h 13 (by decide) rfl, e108]
   exact h108
  refine tf_y ?_ fun _ => tf_y (ap_y ?_) fun _ => tf_y (q := slowB zs) ?_ fun _ => tf_y (ap_y ?_) fun _ => tf_1 (ap_b ?_)
  ·rw [v_cmp, l_i0, ap_i (i := 0) (k := .i64) (v := cmp4 D.hi D.lo 0 281474976710656) (l := [cmp4 D.hi D.lo 0 281474976710656]) (by
    rw [vals_c, vals_c, vals_c, vals_c, vals_n, ap_i (i := 0) v108 (gd0 _ _ _) ho.1, ap_i (i := 1) v108 (gd1 _ _ _ _) ho.2, v_lit, v_lit, e106]
    exact f106 ho.1 ho.2 k0 ul) rfl (cmp4_in _ _ _ _)]
   have hc4 := cmp4_ge (a0 := D.hi) (b0 := 0) ho.2 ul
   have e2 : nn 0 281474976710656 = 281474976710656 := rfl
   rw [hon, e2] at hc4
   rw [← hc4]; rfl
  ·simp only [vals_c, vals_n]
   rw [iv_i h 4 (by decide) rfl, iv_u h 5 (by decide) rfl, iv_i h 6 (by decide) rfl, iv_u h 7 (by decide) rfl]
   exact f109 (bi h 4 (by decide) rfl) (bu h 5 (by decide) rfl) (bi h 6 (by decide) rfl) (bu h 7 (by decide) rfl)
  ·show ((SE.app 107 0 none aB).val (envOf (FT Tr7_T109) zs) != 0) = slowB zs
   rw [v_app, h107', List.getD_cons_zero, wrb, b2i_ne]
  ·simp only [vals_c, vals_n]
   rw [iv_i h 18 (by decide) rfl, v_lit, v_lit, e53]
   exact f53 (bi h 18 (by decide) rfl) k0 rfl
  ·simp only [vals_c, vals_n]
   rw [iv_i h 19 (by decide) rfl, v_lit, v_lit, e53]
   exact f53 (bi h 19 (by decide) rfl) k0 rfl
end
end Go.Proofs.Ytedfbamihjnhhaa.Own
