/- A world turned: what is known of lengths and of the first things of lists. -/
/- A world turned: the first rail, the first tether, the body's place. -/
/- A world turned: the bodies' rows. -/
/- A world turned: a body that is not as it was. -/
/- A world turned: a body that may not be. -/
/- A world turned: a body that is all fuel. -/
/- A world turned: such a body may not be. -/
/- A world made: a body, as the program says. -/
import Derived.Test.YtedfbamihjnhhaaWtF
import Derived.Test.YtedfbamihjnhhaaTbH
section
namespace Go.Proofs.Ytedfbamihjnhhaa.Own
open Go Go.RowKit Go.Proofs Go.Proofs.Ytedfbamihjnhhaa.Plain
set_option linter.unusedVariables false
set_option linter.unusedSectionVars false
set_option linter.unusedSimpArgs false
set_option maxRecDepth 100000
theorem len_v {e : Env} {x : SE} {n : Nat} (h : (dec (x.val e)).length = n) (hn : n ≤ 1000000) : (SE.len x).val e = (n : Int) := by
 simp only [SE.val, h]; rw [sat_of (le_max hn)]
theorem leq_len {e : Env} {x : SE} (h : (dec (x.val e)).length ≤ 1000000) : ((SE.cmp .leq (.len x) (.lit .i64 1000000)).val e != 0) = true := by
 have e1 : ((SE.cmp .leq (.len x) (.lit .i64 1000000)).val e != 0) = decide ((SE.len x).val e ≤ (SE.lit .i64 1000000).val e) := by simp only [SE.val, b2i_ne, valCmp]
 have e2 : (SE.lit .i64 1000000).val e = 1000000 := by simp only [SE.val]; rfl
 rw [e1, e2, len_v rfl h, decide_eq_true_eq]; omega
theorem neq_len {e : Env} {x y : SE} (h : (dec (x.val e)).length = (dec (y.val e)).length) : ((SE.cmp .neq (.len x) (.len y)).val e != 0) = false := by
 have : (SE.len x).val e = (SE.len y).val e := by simp only [SE.val, h]
 rw [neq_at, this]; simp
theorem gtr_len {e : Env} {x : SE} {m : Nat} (h : (dec (x.val e)).length ≤ m) (hm : m ≤ 1000000) : ((SE.cmp .gtr (.len x) (.lit .i64 (m : Int))).val e != 0) = false := by
 have e1 : ((SE.cmp .gtr (.len x) (.lit .i64 (m : Int))).val e != 0) = decide ((SE.len x).val e > (SE.lit .i64 (m : Int)).val e) := by simp only [SE.val, b2i_ne, valCmp]
 have e2 : (SE.lit .i64 (m : Int)).val e = (m : Int) := by simp only [SE.val]; rw [IntKind.wrap_i64]; omega
 rw [e1, e2, len_v rfl (by omega), decide_eq_false_iff_not]; omega
section
variable {xs : List Int} (hl : WtLen xs)
include hl
theorem n_in : (dec (wtL0.val (wtEnv xs))).length ≤ 5 := (wt_L0 hl).1
theorem n4 : (dec (wtL4.val (wtEnv xs))).length = (dec (wtL0.val (wtEnv xs))).length := by rw [wt_L4 hl, List.length_replicate]
theorem n8 : (dec (wtL8.val (wtEnv xs))).length = (dec (wtL0.val (wtEnv xs))).length := by rw [wt_L8 hl, List.length_replicate]
theorem n7 : (dec (wtL7.val (wtEnv xs))).length = (dec (wtL0.val (wtEnv xs))).length := by rw [wt_L7 hl, List.length_map]
theorem n5 : (dec (wtL5.val (wtEnv xs))).length = (dec (wtL0.val (wtEnv xs))).length := (wt_L5 hl).1
theorem n10 : (dec (wtL10.val (wtEnv xs))).length = (dec (wtL0.val (wtEnv xs))).length := (wt_L10 hl).1
theorem k0 : (wtF0.val (wtEnv xs) != 0) = true := by unfold wtF0; exact leq_len (by have := n_in hl; omega)
omit hl in
theorem k1 : (wtF1.val (wtEnv xs) != 0) = true := by
 unfold wtF1; rw [eql_at, len_v (n := 0) (by rw [wt_L3]; rfl) (Nat.zero_le _), l_i0]; rfl
theorem k5 : (wtF5.val (wtEnv xs) != 0) = false := by unfold wtF5; exact neq_len rfl
theorem k6 : (wtF6.val (wtEnv xs) != 0) = true := by unfold wtF6; exact leq_len (by have := n_in hl; rw [n5 hl]; omega)
theorem k7 : (wtF7.val (wtEnv xs) != 0) = false := by unfold wtF7; exact neq_len (n5 hl).symm
theorem k9 : (wtF9.val (wtEnv xs) != 0) = false := by unfold wtF9; exact neq_len rfl
theorem k11 : (wtF11.val (wtEnv xs) != 0) = false := by unfold wtF11; exact neq_len rfl
theorem k13 : (wtF13.val (wtEnv xs) != 0) = true := by unfold wtF13; exact leq_len (by have := n_in hl; rw [n7 hl]; omega)
theorem k14 : (wtF14.val (wtEnv xs) != 0) = false := by unfold wtF14; exact neq_len (n7 hl).symm
theorem k15 : (wtF15.val (wtEnv xs) != 0) = true := by unfold wtF15; exact leq_len (by have := n_in hl; rw [n10 hl]; omega)
theorem k16 : (wtF16.val (wtEnv xs) != 0) = false := by unfold wtF16; exact neq_len (n10 hl).symm
theorem k34 : (wtF34.val (wtEnv xs) != 0) = false := by unfold wtF34; exact gtr_len (m := 32) (by have := n_in hl; omega) (by omega)
theorem k35 : (wtF35.val (wtEnv xs) != 0) = false := by unfold wtF35; exact gtr_len (m := 16) (by have := wt_L6 hl; omega) (by omega)
theorem k40 : (wtF40.val (wtEnv xs) != 0) = false := by unfold wtF40; exact gtr_len (m := 32) (by have := (wt_L9 hl).1; omega) (by omega)
theorem k45 : (wtF45.val (wtEnv xs) != 0) = false := by unfold wtF45; exact neq_len (n4 hl)
theorem k46 : (wtF46.val (wtEnv xs) != 0) = false := by unfold wtF46; exact neq_len (n8 hl)
end
end Go.Proofs.Ytedfbamihjnhhaa.Own
end
section
namespace Go.Proofs.Ytedfbamihjnhhaa.Own
open Go Go.RowKit Go.Proofs Go.Proofs.Ytedfbamihjnhhaa.Plain
set_option linter.unusedVariables false
set_option linter.unusedSimpArgs false
set_option linter.unusedSectionVars false
set_option maxRecDepth 100000
theorem el_v {e : Env} {k : Option IntKind} {x i : SE} {j : Nat} {t : Nat} (h : i.val e = (t : Int)) : (SE.el k x i j).val e = wrK k (((dec (x.val e)).getD t []).getD j 0) := by
 simp only [SE.val, h, Int.toNat_natCast]
/-! the place -/
noncomputable def wtPl (xs : List Int) : Nat := (wtNum xs % ((dec (wtL0.val (wtEnv xs))).length : Int)).toNat
section
variable {xs : List Int} (hl : WtLen xs) (h0 : 0 < (dec (wtL0.val (wtEnv xs))).length)
include hl h0
end
end Go.Proofs.Ytedfbamihjnhhaa.Own
end
section
namespace Go.Proofs.Ytedfbamihjnhhaa.Own
open Go Go.RowKit Go.Proofs Go.Proofs.Ytedfbamihjnhhaa.Plain
set_option linter.unusedVariables false
set_option linter.unusedSimpArgs false
set_option linter.unusedSectionVars false
set_option maxRecDepth 100000
theorem g72 : FT Lm2_T 72 = treeFn tr72 (FT Tr5_T22) := by kernel_rfl
theorem g22b : FT Tr5_T22 22 = treeFn tr22 (FT TbE_T) := by kernel_rfl
theorem f22b {n : Int} (h : 0 ≤ n ∧ n ≤ 1152921504606846976) : FT Tr5_T22 22 [n] = [n, 0] := by
 rw [g22b, ← g22]; exact f22 h
structure BdR (el : List Int) : Prop where
 m : 1 ≤ el.getD 0 0 ∧ el.getD 0 0 ≤ 9
 f : el.getD 12 0 = 0
 y : wrK (some .u64) (el.getD 7 0) ≠ 1
section
variable {xs : List Int} (hl : WtLen xs) {k : Nat} (hk : k < (dec (wtL0.val (wtEnv xs))).length)
include hl hk
end
end Go.Proofs.Ytedfbamihjnhhaa.Own
end
section
namespace Go.Proofs.Ytedfbamihjnhhaa.Own
open Go Go.RowKit Go.Proofs Go.Proofs.Ytedfbamihjnhhaa.Plain
set_option linter.unusedVariables false
set_option linter.unusedSimpArgs false
set_option linter.unusedSectionVars false
set_option maxRecDepth 100000
section
variable {xs : List Int} (hl : WtLen xs) (h0 : 0 < (dec (wtL0.val (wtEnv xs))).length) {B : SE} (hB : (dec (B.val (wtEnv xs))).length = (dec (wtL0.val (wtEnv xs))).length)
include hl h0 hB
end
section
variable {xs : List Int} (hl : WtLen xs) (h0 : 0 < (dec (wtL0.val (wtEnv xs))).length) {B : SE} (hB : (dec (B.val (wtEnv xs))).length = (dec (wtL0.val (wtEnv xs))).length) (hr : BdR ((dec (B.val (wtEnv xs))).getD (wtPl xs) []))
include hl h0 hB hr
end
section
variable {xs : List Int} (hl : WtLen xs) (h0 : 0 < (dec (wtL0.val (wtEnv xs))).length)
include hl h0
end
end Go.Proofs.Ytedfbamihjnhhaa.Own
end
section
namespace Go.Proofs.Ytedfbamihjnhhaa.Own
open Go Go.RowKit Go.Proofs Go.Proofs.Ytedfbamihjnhhaa.Plain
set_option linter.unusedVariables false
set_option linter.unusedSimpArgs false
set_option linter.unusedSectionVars false
set_option maxRecDepth 100000
section
variable {F : Nat → List Int → List Int} {zs : List Int} {x : SE} {t : ST}
end
theorem iu_at {F : Nat → List Int → List Int} {zs : List Int} {k : IntKind} {j : Nat} : (SE.ivar k j).val (envOf F zs) = k.wrap (zs.getD j 0) := by
 simp only [SE.val, envOf_iv]
/-! too far -/
theorem g85 : FT Tr5_T85 85 = treeFn tr85 (FT Tr5_T84) := by kernel_rfl
theorem g45 : FT Tr5_T45 45 = treeFn tr45 (FT Tr5_T85) := by kernel_rfl
theorem g44 : FT Lm5_T 44 = treeFn tr44 (FT Tr5_T45) := by kernel_rfl
end Go.Proofs.Ytedfbamihjnhhaa.Own
end
section
namespace Go.Proofs.Ytedfbamihjnhhaa.Own
open Go Go.RowKit Go.Proofs Go.Proofs.Ytedfbamihjnhhaa.Plain
set_option linter.unusedVariables false
set_option linter.unusedSimpArgs false
set_option linter.unusedSectionVars false
set_option maxRecDepth 100000
theorem g65 : FT Tr5_T70 65 = treeFn tr65 (FT Tr5_T42) := by kernel_rfl
theorem g70 : FT Tr5_T70 70 = treeFn tr70 (FT Tr5_T65) := by kernel_rfl
theorem g69 : FT Tr5_T65 69 = gLsub := by kernel_rfl
theorem g100 : FT Tr5_T67 100 = treeFn tr100 (FT Tr5_T70) := by kernel_rfl
theorem g29 : FT Tr5_T67 29 = gFadd := by kernel_rfl
theorem g82 : FT Tr5_T85 82 = treeFn tr82 (FT Tr5_T67) := by kernel_rfl
end Go.Proofs.Ytedfbamihjnhhaa.Own
end
section
namespace Go.Proofs.Ytedfbamihjnhhaa.Own
open Go Go.RowKit Go.Proofs Go.Proofs.Ytedfbamihjnhhaa.Plain
set_option linter.unusedVariables false
set_option linter.unusedSimpArgs false
set_option linter.unusedSectionVars false
set_option maxRecDepth 100000
end Go.Proofs.Ytedfbamihjnhhaa.Own
end
section
namespace Go.Proofs.Ytedfbamihjnhhaa.Own
open Go Go.RowKit Go.Proofs Go.Proofs.Ytedfbamihjnhhaa.Plain
set_option linter.unusedVariables false
set_option linter.unusedSectionVars false
set_option linter.unusedSimpArgs false
set_option maxRecDepth 100000
theorem of_bits2 {z : Int} {T : Two} (h : ∃ k : Int, (T.n : Int) = z + k * 340282366920938463463374607431768211456) : IntKind.i64.wrap T.hi = (Fx.of z).hi ∧ T.lo = (Fx.of z).lo := by
 obtain ⟨k, h⟩ := h
 rw [Two.n_int] at h
 have := T.b
 constructor
 ·show _ = IntKind.i64.wrap (z / 18446744073709551616); rw [IntKind.wrap_i64, IntKind.wrap_i64]; omega
 ·show _ = z % 18446744073709551616; omega
theorem of_in (z : Int) : inK (some .i64) (Fx.of z).hi ∧ inK (some .u64) (Fx.of z).lo := fx_in _
theorem fxW_of {z : Int} (h : -170141183460469231731687303715884105728 ≤ z ∧ z < 170141183460469231731687303715884105728) : fxW (Fx.of z).hi (Fx.of z).lo = Fx.of z := by
 apply Fx.n_ext
 rw [fxW_n (of_in z).1 (of_in z).2]
 rfl
theorem fadd_small (a b : Fx) (h : -170141183460469231731687303715884105728 < a.n + b.n ∧ a.n + b.n < 170141183460469231731687303715884105728) : fadd a b = (Fx.of (a.n + b.n), 0) := by
 unfold fadd
 by_cases c : a.below = b.below
 ·rw [if_pos c]
  have na := a.neg_iff
  have nb := b.neg_iff
  have ma := a.mag_n
  have mb := b.mag_n
  have z0 : (⟨0, 0, by decide⟩ : Two).n = 0 := by kernel_rfl
  have e1 : (⟨⟨0, 0, by decide⟩, Two.of (a.mag.n + b.mag.n)⟩ : Four).n = (Two.of (a.mag.n + b.mag.n)).n := Four.n_low z0
  have hs : a.mag.n + b.mag.n < 170141183460469231731687303715884105728 ∧ sgn a.below (a.mag.n + b.mag.n) = a.n + b.n := by
   have et : ∀ n, sgn true n = -(n : Int) := fun n => rfl
   have ef : ∀ n, sgn false n = (n : Int) := fun n => rfl
   by_cases ha : a.hi < 0
   ·have e : a.below = true := decide_eq_true ha
    have hb : b.hi < 0 := of_decide_eq_true (show decide (b.hi < 0) = true from (show b.below = true by rw [← c, e]))
    have := na.1 ha; have := nb.1 hb
    rw [e, et]; omega
   ·have e : a.below = false := decide_eq_false ha
    have hb : ¬ b.hi < 0 := of_decide_eq_false (show decide (b.hi < 0) = false from (show b.below = false by rw [← c, e]))
    have : ¬ a.n < 0 := fun q => ha (na.2 q)
    have : ¬ b.n < 0 := fun q => hb (nb.2 q)
    rw [e, ef]; omega
  have e2 : (Two.of (a.mag.n + b.mag.n)).n = a.mag.n + b.mag.n := by rw [Two.of_n]; exact Nat.mod_eq_of_lt (by omega)
  unfold told
  rw [e1, e2, if_neg (by omega), hs.2]
 ·rw [if_neg c]
section
variable {a0 a1 b0 b1 : Int}
theorem f76 (h0 : inK (some .i64) a0) (h1 : inK (some .u64) a1) (h2 : inK (some .i64) b0) (h3 : inK (some .u64) b1) : FT Tr5_T76 76 [a0, a1, b0, b1] = [b2i (mayN a0 a1 && mayN b0 b1)] := by
 have g : FT Tr5_T76 76 = treeFn tr76 (FT Tr5_T51) := FT_hd (Tb := Tr5_T76) rfl rfl
 have e : FT Tr5_T51 99 = FT Tr5_T83 99 := FT_at 3 (by kernel_rfl) (by kernel_rfl)
 rw [g]; unfold tr76
 refine tf_y (ap_y ?_) fun _ => tf_1 (ap_b ?_)
 ·simp only [vals_c, vals_n, iu_at, List.getD_cons_zero, List.getD_cons_succ, w_i h0, w_u h1]; rw [e]; exact f99 h0 h1
 ·simp only [vals_c, vals_n, iu_at, List.getD_cons_zero, List.getD_cons_succ, w_i h2, w_u h3]; rw [e]; exact f99 h2 h3
theorem f77n {l0 l1 m0 m1 : Int} (h0 : inK (some .i64) a0) (h1 : inK (some .u64) a1) (h2 : inK (some .i64) l0) (h3 : inK (some .u64) l1) (h4 : inK (some .i64) m0) (h5 : inK (some .u64) m1) : FT Tr5_T77 77 [a0, a1, l0, l1, m0, m1] = [b2i (inF a0 a1 (nn l0 l1) (nn m0 m1))] := by
 rw [f77 h0 h1 h2 h3 h4 h5, cmp4_ge h1 h3, cmp4_le h1 h5]; rfl
theorem f75n {n : Int} (h0 : inK (some .i64) a0) (h1 : inK (some .u64) a1) (h : 0 ≤ n ∧ n ≤ 1152921504606846976) : FT Tr5_T75 75 [a0, a1, n] = [b2i (inF a0 a1 0 (nn n 0))] := by
 have e : FT Lm6_T 75 = FT Tr5_T75 75 := FT_at 37 (by kernel_rfl) (by kernel_rfl)
 rw [← e, f75 h0 h1 h, cmp4_ge h1 (show inK (some .u64) 0 from rfl), cmp4_le h1 (show inK (some .u64) 0 from rfl)]
 rfl
theorem f51n {c : Int} (h0 : inK (some .i64) a0) (h1 : inK (some .i64) b0) (h2 : inK (some .i64) c) : FT Tr5_T51 51 [a0, b0, c] = [b2i (decide (b0 ≤ a0) && decide (a0 ≤ c))] := by
 have g : FT Tr5_T51 51 = treeFn tr51 (FT Tr5_T75) := FT_hd (Tb := Tr5_T51) rfl rfl
 rw [g]; unfold tr51
 refine tf_y ?_ fun _ => tf_1 ?_
 ·rw [v_cmp, iu_at, iu_at]; simp only [List.getD_cons_zero, List.getD_cons_succ, w_i h0, w_i h1, valCmp]
 ·simp only [SE.val, envOf_iv, List.getD_cons_zero, List.getD_cons_succ, w_i h0, w_i h2, valCmp]
/-! a number turned about, from nought up -/
theorem f65p (h0 : 0 ≤ a0 ∧ a0 < 9223372036854775808) (h1 : inK (some .u64) a1) : FT Tr5_T70 65 [a0, a1] = [a0, a1, 0] := by
 rw [g65]
 have hk : inK (some .i64) a0 := by show IntKind.i64.wrap a0 = a0; rw [IntKind.wrap_i64]; omega
 have hu : IntKind.u64.wrap a0 = a0 := by rw [IntKind.wrap_u64]; omega
 have e : ((SE.cmp .eql (.bin .shr .i64 (.ivar .i64 0) (.lit .u64 63)) (.lit .i64 0)).val (envOf (FT Tr5_T42) [a0, a1]) != 0) = true := by
  rw [eql_at, l_i0, v_bin, v_lit, iu_at, List.getD_cons_zero, w_i hk, w63u]
  have : valBin .shr .i64 a0 ((63 : Nat) : Int) = 0 := by
   show IntKind.i64.wrap (a0.fdiv (2 ^ (min (((63 : Nat) : Int)).toNat IntKind.i64.bits))) = 0
   have e1 : a0.fdiv (2 ^ (min (((63 : Nat) : Int)).toNat IntKind.i64.bits)) = a0 / 9223372036854775808 := by rw [Int.fdiv_eq_ediv_of_nonneg _ (Int.pow_nonneg (by decide))]; rfl
   rw [e1, show a0 / 9223372036854775808 = 0 by omega]; rfl
  rw [this]; rfl
 unfold treeFn
 simp only [tr65, ST.get, e, cond_true]
 simp only [flatV, List.map, valC, SE.val, envOf_iv, List.getD_cons_zero, List.getD_cons_succ, w_u h1, w_i hk, hu]
 rfl
theorem f70n (h0 : inK (some .u64) a0) (h1 : inK (some .u64) a1) : FT Tr5_T70 70 [a0, a1, 1] = [(Fx.of (-(nn a0 a1))).hi, (Fx.of (-(nn a0 a1))).lo] := by
 rw [g70]
 have b0 := in_u h0
 have b1 := in_u h1
 have e : ((SE.bvar 2).val (envOf (FT Tr5_T65) [a0, a1, 1]) != 0) = true := by simp only [SE.val]; rfl
 unfold treeFn
 simp only [tr70, ST.get, e, cond_true]
 simp only [flatV, List.map, valC]
 have cv : ∀ x : SE, (SE.conv .i64 x).val (envOf (FT Tr5_T65) [a0, a1, 1]) = IntKind.i64.wrap (x.val (envOf (FT Tr5_T65) [a0, a1, 1])) := fun x => by simp only [SE.val]
 have u0 : (SE.lit .u64 0).val (envOf (FT Tr5_T65) [a0, a1, 1]) = 0 := by simp only [SE.val]; rfl
 rw [cv, app_at, app_at]
 simp only [vals_c, vals_n, u0, iu_at, List.getD_cons_zero, List.getD_cons_succ, w_u h0, w_u h1]
 rw [g69]
 unfold gLsub
 simp only [List.getD_cons_zero, List.getD_cons_succ]
 have ea : twA [0, 0, a0, a1] = 0 := by show Limb.n2 0 0 = 0; unfold Limb.n2 val2; omega
 have eb : ((twB [0, 0, a0, a1] : Nat) : Int) = nn a0 a1 := by
  show ((Limb.n2 a0 a1 : Nat) : Int) = _
  unfold Limb.n2 val2 nn; omega
 have hlt : twB [0, 0, a0, a1] < 340282366920938463463374607431768211456 := by
  have : nn a0 a1 < 340282366920938463463374607431768211456 := by unfold nn; omega
  omega
 rw [ea]
 have hb := two_in (Two.of (0 + 340282366920938463463374607431768211456 - twB [0, 0, a0, a1]))
 have hn := Two.of_n (0 + 340282366920938463463374607431768211456 - twB [0, 0, a0, a1])
 have ob := of_bits2 (z := -(nn a0 a1)) (T := Two.of (0 + 340282366920938463463374607431768211456 - twB [0, 0, a0, a1])) (by
  rw [hn, ← eb]
  by_cases c : twB [0, 0, a0, a1] = 0
  ·exact ⟨0, by omega⟩
  ·exact ⟨1, by omega⟩)
 rw [← ob.1, ← ob.2]
 show [IntKind.i64.wrap (IntKind.u64.wrap _), IntKind.u64.wrap _] = _
 rw [w_u hb.1, w_u hb.2]
theorem f100p (h0 : 0 ≤ a0 ∧ a0 < 9223372036854775808) (h1 : inK (some .u64) a1) : FT Tr5_T67 100 [a0, a1] = [(Fx.of (-(nn a0 a1))).hi, (Fx.of (-(nn a0 a1))).lo] := by
 have hk : inK (some .i64) a0 := by show IntKind.i64.wrap a0 = a0; rw [IntKind.wrap_i64]; omega
 have hu : inK (some .u64) a0 := by show IntKind.u64.wrap a0 = a0; rw [IntKind.wrap_u64]; omega
 rw [g100]
 unfold treeFn
 simp only [tr100, ST.get, flatV, List.map, valC]
 have nt : ∀ x : SE, (SE.not x).val (envOf (FT Tr5_T70) [a0, a1]) = b2i (!(x.val (envOf (FT Tr5_T70) [a0, a1]) != 0)) := fun x => by simp only [SE.val]
 rw [app_at, app_at]
 simp only [vals_c, vals_n, nt, app_at, iu_at, List.getD_cons_zero, List.getD_cons_succ, w_u h1, w_i hk]
 rw [f65p h0 h1]
 simp only [List.getD_cons_zero, List.getD_cons_succ]
 rw [show wrK (some .u64) a0 = a0 from hu, show wrK (some .u64) a1 = a1 from h1, show b2i (!(wrK none 0 != 0)) = 1 from rfl, f70n hu h1]
 have ho := of_in (-(nn a0 a1))
 show [IntKind.i64.wrap _, IntKind.u64.wrap _] = _
 simp only [List.getD_cons_zero, List.getD_cons_succ]
 rw [w_i ho.1, w_u ho.2]
theorem f82p (h0 : 0 ≤ a0 ∧ a0 < 9223372036854775808) (h1 : inK (some .u64) a1) (h2 : 0 ≤ b0 ∧ b0 < 9223372036854775808) (h3 : inK (some .u64) b1) : FT Tr5_T85 82 [a0, a1, b0, b1] = [(Fx.of (nn a0 a1 - nn b0 b1)).hi, (Fx.of (nn a0 a1 - nn b0 b1)).lo, 0] := by
 have ka : inK (some .i64) a0 := by show IntKind.i64.wrap a0 = a0; rw [IntKind.wrap_i64]; omega
 have kb : inK (some .i64) b0 := by show IntKind.i64.wrap b0 = b0; rw [IntKind.wrap_i64]; omega
 have u1 := in_u h1
 have u3 := in_u h3
 have ho := of_in (-(nn b0 b1))
 have hp := of_in (nn a0 a1 - nn b0 b1)
 have hs : gFadd [a0, a1, (Fx.of (-(nn b0 b1))).hi, (Fx.of (-(nn b0 b1))).lo] = [(Fx.of (nn a0 a1 - nn b0 b1)).hi, (Fx.of (nn a0 a1 - nn b0 b1)).lo, 0] := by
  have hr : -170141183460469231731687303715884105728 ≤ -(nn b0 b1) ∧ -(nn b0 b1) < 170141183460469231731687303715884105728 := by unfold nn; omega
  have e1 : (fxW a0 a1).n = nn a0 a1 := fxW_n ka h1
  have e2 : (Fx.of (-(nn b0 b1))).n = -(nn b0 b1) := Fx.of_n _ hr
  have hf := fadd_small (fxW a0 a1) (Fx.of (-(nn b0 b1))) (by rw [e1, e2]; unfold nn; omega)
  rw [e1, e2, ← Int.sub_eq_add_neg] at hf
  unfold gFadd
  simp only [List.getD_cons_zero, List.getD_cons_succ]
  rw [fxW_of hr, hf]
 rw [g82]
 unfold treeFn
 simp only [tr82, ST.get, flatV, flatVs, List.map, valC, List.cons_append, List.nil_append, List.append_nil]
 simp only [app_at, vals_c, vals_n, iu_at, List.getD_cons_zero, List.getD_cons_succ, w_u h1, w_i ka, w_i kb, w_u h3]
 rw [f100p h2 h3]
 simp only [List.getD_cons_zero, List.getD_cons_succ]
 rw [show wrK (some .i64) (Fx.of (-(nn b0 b1))).hi = (Fx.of (-(nn b0 b1))).hi from ho.1, show wrK (some .u64) (Fx.of (-(nn b0 b1))).lo = (Fx.of (-(nn b0 b1))).lo from ho.2, g29, hs]
 simp only [List.getD_cons_zero, List.getD_cons_succ]
 rw [show wrK (some .i64) (Fx.of (nn a0 a1 - nn b0 b1)).hi = (Fx.of (nn a0 a1 - nn b0 b1)).hi from hp.1, show wrK (some .u64) (Fx.of (nn a0 a1 - nn b0 b1)).lo = (Fx.of (nn a0 a1 - nn b0 b1)).lo from hp.2]
 rfl
end
end Go.Proofs.Ytedfbamihjnhhaa.Own
end
