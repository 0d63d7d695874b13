/- A world turned: what is known of numbers. -/
/- A world turned: what is known of lengths and of the first things of lists. -/
import Derived.Test.YtedfbamihjnhhaaDf6
import Derived.Test.YtedfbamihjnhhaaWtS
section
namespace Go.Proofs.Ytedfbamihjnhhaa.Own
open Go Go.RowKit Go.Proofs Go.Proofs.Ytedfbamihjnhhaa.Plain
set_option linter.unusedVariables false
set_option linter.unusedSectionVars false
set_option linter.unusedSimpArgs false
set_option maxRecDepth 100000
theorem to_zero {v n : Int} (hv : inK (some .u64) v) (hp : 0 ≤ v) (hn : 1 ≤ n ∧ n ≤ 1152921504606846976) : FT Lm6_T 75 [0, v, n] = [1] := by
 rw [f75 (show inK (some .i64) 0 from rfl) hv ⟨by omega, hn.2⟩]
 have e1 : mayN 0 v = true := rfl
 have e2 : (0 : Int) ≤ cmp4 0 v 0 0 := by
  unfold cmp4 cmp2
  simp only [Int.lt_irrefl, if_false, ne_eq, not_true]
  by_cases h : (0 : Int) < v
  ·rw [if_neg (by omega), if_pos h]; decide
  ·rw [if_neg (by omega), if_neg h]; decide
 have e3 : cmp4 0 v n 0 ≤ (0 : Int) := by
  unfold cmp4 cmp2
  rw [if_pos (show (0 : Int) < n by omega), if_pos (by decide)]; decide
 rw [e1, decide_eq_true e2, decide_eq_true e3]; rfl
theorem to_int {a n : Int} (ha : 1 ≤ a ∧ a < n) (hn : n ≤ 1152921504606846976) : FT Lm6_T 75 [a, 0, n] = [1] := by
 have hi : inK (some .i64) a := by show IntKind.i64.wrap a = a; rw [IntKind.wrap_i64]; omega
 rw [f75 hi (show inK (some .u64) 0 from rfl) ⟨by omega, hn⟩]
 have e1 : mayN a 0 = true := by
  unfold mayN
  have : (a == -9223372036854775808) = false := by rw [beq_eq_false_iff_ne]; omega
  rw [this]; rfl
 have e2 : (0 : Int) ≤ cmp4 a 0 0 0 := by
  unfold cmp4 cmp2
  rw [if_neg (show ¬ a < (0 : Int) by omega), if_pos (show (0 : Int) < a by omega), if_pos (by decide)]; decide
 have e3 : cmp4 a 0 n 0 ≤ (0 : Int) := by
  unfold cmp4 cmp2
  rw [if_pos (show a < n by omega), if_pos (by decide)]; decide
 rw [e1, decide_eq_true e2, decide_eq_true e3]; rfl
theorem app_at {F : Nat → List Int → List Int} {xs : List Int} {f i : Nat} {k : Option IntKind} {zs : SE} : (SE.app f i k zs).val (envOf F xs) = wrK k ((F f (zs.vals (envOf F xs))).getD i 0) := by
 simp only [SE.val, envOf_F]
theorem and_at {e : Env} {a b : SE} : ((SE.and a b).val e != 0) = ((a.val e != 0) && (b.val e != 0)) := by
 simp only [SE.val, b2i_ne]
theorem eql_at {e : Env} {a b : SE} : ((SE.cmp .eql a b).val e != 0) = (a.val e == b.val e) := by
 simp only [SE.val, b2i_ne, valCmp]
theorem neq_at {e : Env} {a b : SE} : ((SE.cmp .neq a b).val e != 0) = (a.val e != b.val e) := by
 simp only [SE.val, b2i_ne, valCmp]
theorem l_i0 {e : Env} : (SE.lit .i64 0).val e = 0 := by simp only [SE.val]; rfl
theorem l_i1 {e : Env} : (SE.lit .i64 1).val e = 1 := by simp only [SE.val]; rfl
theorem l_20 {e : Env} : (SE.lit .i64 1048576).val e = 1048576 := by simp only [SE.val]; rfl
theorem u64w_in (x : Int) : inK (some .u64) (IntKind.u64.wrap x) ∧ 0 ≤ IntKind.u64.wrap x := by
 refine ⟨?_, ?_⟩
 ·show IntKind.u64.wrap (IntKind.u64.wrap x) = _
  simp only [IntKind.wrap_u64]; omega
 ·rw [IntKind.wrap_u64]; omega
section
variable (xs : List Int)
noncomputable def wtHow : Int := IntKind.u8.wrap (xs.getD 4 0)
noncomputable def wtNum : Int := IntKind.u8.wrap (xs.getD 6 0)
theorem how_in : 0 ≤ wtHow xs ∧ wtHow xs < 256 := by unfold wtHow; rw [IntKind.wrap_u8]; omega
theorem wt_c3 : (SE.bin .add .i64 (.lit .i64 1) (.bin .rem .i64 (.conv .i64 (.ivar .u8 4)) (.lit .i64 3))).val (envOf (FT Lm6_T) xs) = 1 + wtHow xs % 3 := by
 have h := how_in xs
 simp only [SE.val, valBin, envOf_iv]
 change IntKind.i64.wrap (IntKind.i64.wrap 1 + IntKind.i64.wrap ((IntKind.i64.wrap (wtHow xs)).tmod (IntKind.i64.wrap 3))) = _
 have w1 : IntKind.i64.wrap 1 = 1 := rfl
 have w3 : IntKind.i64.wrap 3 = 3 := rfl
 have w4 : IntKind.i64.wrap (wtHow xs) = wtHow xs := by rw [IntKind.wrap_i64]; omega
 rw [w1, w3, w4, Int.tmod_eq_emod_of_nonneg h.1]
 simp only [IntKind.wrap_i64]; omega
theorem wt_bit (d : Int) (hd : 1 ≤ d ∧ d ≤ 100) : (SE.bin .rem .i64 (.bin .quo .i64 (.conv .i64 (.ivar .u8 4)) (.lit .i64 d)) (.lit .i64 2)).val (envOf (FT Lm6_T) xs) = wtHow xs / d % 2 := by
 have h := how_in xs
 simp only [SE.val, valBin, envOf_iv]
 change IntKind.i64.wrap ((IntKind.i64.wrap ((IntKind.i64.wrap (wtHow xs)).tdiv (IntKind.i64.wrap d))).tmod (IntKind.i64.wrap 2)) = _
 have w1 : IntKind.i64.wrap d = d := by rw [IntKind.wrap_i64]; omega
 have w3 : IntKind.i64.wrap 2 = 2 := rfl
 have w4 : IntKind.i64.wrap (wtHow xs) = wtHow xs := by rw [IntKind.wrap_i64]; omega
 have b1 : 0 ≤ wtHow xs / d := Int.ediv_nonneg h.1 (by omega)
 have b2 : wtHow xs / d < 256 := Int.lt_of_le_of_lt (Int.ediv_le_self _ h.1) h.2
 rw [w1, w3, w4, Int.tdiv_eq_ediv_of_nonneg h.1]
 have w5 : IntKind.i64.wrap (wtHow xs / d) = wtHow xs / d := by rw [IntKind.wrap_i64]; omega
 rw [w5, Int.tmod_eq_emod_of_nonneg b1]
 simp only [IntKind.wrap_i64]; omega
theorem wt_L1 : wtL1.val (envOf (FT Lm6_T) xs) = 1 + wtHow xs % 3 := by
 have h := how_in xs
 unfold wtL1
 rw [app_at, vals_c, vals_n, wt_c3, f22 ⟨by omega, by omega⟩]
 show IntKind.i64.wrap _ = _
 rw [List.getD_cons_zero, IntKind.wrap_i64]; omega
theorem wt_L2 : wtL2.val (envOf (FT Lm6_T) xs) = 0 := by
 have h := how_in xs
 unfold wtL2
 rw [app_at, vals_c, vals_n, wt_c3, f22 ⟨by omega, by omega⟩]
 rfl
/-! what is known -/
theorem k2 : (wtF2.val (wtEnv xs) != 0) = true := by
 have h := how_in xs
 unfold wtF2 wtEnv
 rw [app_at]; simp only [vals_c, vals_n, wt_L1, wt_L2, l_20]
 rw [to_int ⟨by omega, by omega⟩ (by omega)]; rfl
theorem k3 : (wtF3.val (wtEnv xs) != 0) = true := by
 unfold wtF3 wtEnv
 rw [app_at]; simp only [vals_c, vals_n, l_i0, l_i1]
 have e : ∃ x, (SE.bin .shl .u64 (.conv .u64 (.ivar .u8 4)) (.lit .u64 56)).val (envOf (FT Lm6_T) xs) = IntKind.u64.wrap x := ⟨_, by simp only [SE.val, valBin]; rfl⟩
 obtain ⟨x, e⟩ := e
 rw [e, to_zero (u64w_in x).1 (u64w_in x).2 ⟨by omega, by omega⟩]; rfl
theorem k26 : (wtF26.val (wtEnv xs) != 0) = true := by
 unfold wtF26 wtEnv
 rw [app_at]; simp only [vals_c, vals_n, l_i0, l_i1]
 have e : ∃ x, (SE.bin .shl .u64 (.conv .u64 (.bin .rem .u8 (.ivar .u8 4) (.lit .u8 4))) (.lit .u64 62)).val (envOf (FT Lm6_T) xs) = IntKind.u64.wrap x := ⟨_, by simp only [SE.val, valBin]; rfl⟩
 obtain ⟨x, e⟩ := e
 rw [e, to_zero (u64w_in x).1 (u64w_in x).2 ⟨by omega, by omega⟩]; rfl
theorem k4 : (wtF4.val (wtEnv xs) != 0) = true := by
 have h := how_in xs
 unfold wtF4 wtEnv
 rw [app_at]; simp only [vals_c, vals_n, l_i0, l_i1, wt_bit xs 4 ⟨by omega, by omega⟩]
 rw [f51 (x := wtHow xs / 4 % 2) (a := 0) (b := 1) (by show IntKind.i64.wrap _ = _; rw [IntKind.wrap_i64]; omega) (show IntKind.i64.wrap 0 = 0 from rfl) (show IntKind.i64.wrap 1 = 1 from rfl) ⟨by omega, by omega⟩]; rfl
theorem k33 : (wtF33.val (wtEnv xs) != 0) = true := by
 have h := how_in xs
 unfold wtF33 wtEnv
 rw [app_at]; simp only [vals_c, vals_n, l_i0, l_i1, wt_bit xs 8 ⟨by omega, by omega⟩]
 rw [f51 (x := wtHow xs / 8 % 2) (a := 0) (b := 1) (by show IntKind.i64.wrap _ = _; rw [IntKind.wrap_i64]; omega) (show IntKind.i64.wrap 0 = 0 from rfl) (show IntKind.i64.wrap 1 = 1 from rfl) ⟨by omega, by omega⟩]; rfl
theorem k24 : (wtF24.val (wtEnv xs) != 0) = true := by
 unfold wtF24; simp only [and_at, eql_at, beq_self_eq_true, Bool.true_and]
theorem k27 : (wtF27.val (wtEnv xs) != 0) = true := by
 unfold wtF27; simp only [and_at, eql_at, beq_self_eq_true, Bool.true_and]
theorem k28 : (wtF28.val (wtEnv xs) != 0) = true := by
 unfold wtF28; simp only [and_at, eql_at, beq_self_eq_true, Bool.true_and]
theorem k30 : (wtF30.val (wtEnv xs) != 0) = true := by
 unfold wtF30; simp only [eql_at, beq_self_eq_true]
theorem k38 : (wtF38.val (wtEnv xs) != 0) = true := by
 unfold wtF38; simp only [eql_at, beq_self_eq_true]
end
end Go.Proofs.Ytedfbamihjnhhaa.Own
end
section
namespace Go.Proofs.Ytedfbamihjnhhaa.Own
open Go Go.RowKit Go.Proofs Go.Proofs.Ytedfbamihjnhhaa.Plain
set_option linter.unusedVariables false
set_option linter.unusedSectionVars false
set_option linter.unusedSimpArgs false
set_option maxRecDepth 100000
theorem len_v {e : Env} {x : SE} {n : Nat} (h : (dec (x.val e)).length = n) (hn : n ≤ 1000000) : (SE.len x).val e = (n : Int) := by
 simp only [SE.val, h]; rw [sat_of (le_max hn)]
theorem leq_len {e : Env} {x : SE} (h : (dec (x.val e)).length ≤ 1000000) : ((SE.cmp .leq (.len x) (.lit .i64 1000000)).val e != 0) = true := by
 have e1 : ((SE.cmp .leq (.len x) (.lit .i64 1000000)).val e != 0) = decide ((SE.len x).val e ≤ (SE.lit .i64 1000000).val e) := by simp only [SE.val, b2i_ne, valCmp]
 have e2 : (SE.lit .i64 1000000).val e = 1000000 := by simp only [SE.val]; rfl
 rw [e1, e2, len_v rfl h, decide_eq_true_eq]; omega
theorem neq_len {e : Env} {x y : SE} (h : (dec (x.val e)).length = (dec (y.val e)).length) : ((SE.cmp .neq (.len x) (.len y)).val e != 0) = false := by
 have : (SE.len x).val e = (SE.len y).val e := by simp only [SE.val, h]
 rw [neq_at, this]; simp
theorem gtr_len {e : Env} {x : SE} {m : Nat} (h : (dec (x.val e)).length ≤ m) (hm : m ≤ 1000000) : ((SE.cmp .gtr (.len x) (.lit .i64 (m : Int))).val e != 0) = false := by
 have e1 : ((SE.cmp .gtr (.len x) (.lit .i64 (m : Int))).val e != 0) = decide ((SE.len x).val e > (SE.lit .i64 (m : Int)).val e) := by simp only [SE.val, b2i_ne, valCmp]
 have e2 : (SE.lit .i64 (m : Int)).val e = (m : Int) := by simp only [SE.val]; rw [IntKind.wrap_i64]; omega
 rw [e1, e2, len_v rfl (by omega), decide_eq_false_iff_not]; omega
theorem eql_one {e : Env} {f i : Nat} {zs : SE} {F : Nat → List Int → List Int} {xs : List Int} {w : List Int} (h : F f (zs.vals (envOf F xs)) = 1 :: w) : ((SE.cmp .eql (.app f 0 (some .i64) zs) (.lit .i64 0)).val (envOf F xs) != 0) = false := by
 rw [eql_at, app_at, h, l_i0]; rfl
section
variable {xs : List Int} (hl : WtLen xs)
include hl
theorem n_in : (dec (wtL0.val (wtEnv xs))).length ≤ 5 := (wt_L0 hl).1
theorem n4 : (dec (wtL4.val (wtEnv xs))).length = (dec (wtL0.val (wtEnv xs))).length := by rw [wt_L4 hl, List.length_replicate]
theorem n8 : (dec (wtL8.val (wtEnv xs))).length = (dec (wtL0.val (wtEnv xs))).length := by rw [wt_L8 hl, List.length_replicate]
theorem n7 : (dec (wtL7.val (wtEnv xs))).length = (dec (wtL0.val (wtEnv xs))).length := by rw [wt_L7 hl, List.length_map]
theorem n5 : (dec (wtL5.val (wtEnv xs))).length = (dec (wtL0.val (wtEnv xs))).length := (wt_L5 hl).1
theorem n10 : (dec (wtL10.val (wtEnv xs))).length = (dec (wtL0.val (wtEnv xs))).length := (wt_L10 hl).1
theorem k0 : (wtF0.val (wtEnv xs) != 0) = true := by unfold wtF0; exact leq_len (by have := n_in hl; omega)
omit hl in
theorem k1 : (wtF1.val (wtEnv xs) != 0) = true := by
 unfold wtF1; rw [eql_at, len_v (n := 0) (by rw [wt_L3]; rfl) (Nat.zero_le _), l_i0]; rfl
theorem k5 : (wtF5.val (wtEnv xs) != 0) = false := by unfold wtF5; exact neq_len rfl
theorem k6 : (wtF6.val (wtEnv xs) != 0) = true := by unfold wtF6; exact leq_len (by have := n_in hl; rw [n5 hl]; omega)
theorem k7 : (wtF7.val (wtEnv xs) != 0) = false := by unfold wtF7; exact neq_len (n5 hl).symm
theorem k9 : (wtF9.val (wtEnv xs) != 0) = false := by unfold wtF9; exact neq_len rfl
theorem k11 : (wtF11.val (wtEnv xs) != 0) = false := by unfold wtF11; exact neq_len rfl
theorem k13 : (wtF13.val (wtEnv xs) != 0) = true := by unfold wtF13; exact leq_len (by have := n_in hl; rw [n7 hl]; omega)
theorem k14 : (wtF14.val (wtEnv xs) != 0) = false := by unfold wtF14; exact neq_len (n7 hl).symm
theorem k15 : (wtF15.val (wtEnv xs) != 0) = true := by unfold wtF15; exact leq_len (by have := n_in hl; rw [n10 hl]; omega)
theorem k16 : (wtF16.val (wtEnv xs) != 0) = false := by unfold wtF16; exact neq_len (n10 hl).symm
theorem k18 : (wtF18.val (wtEnv xs) != 0) = false := by unfold wtF18; exact neq_len rfl
theorem k20 : (wtF20.val (wtEnv xs) != 0) = false := by unfold wtF20; exact neq_len rfl
theorem k32 : (wtF32.val (wtEnv xs) != 0) = true := by unfold wtF32; exact leq_len (by have := n_in hl; rw [n4 hl]; omega)
theorem k34 : (wtF34.val (wtEnv xs) != 0) = false := by unfold wtF34; exact gtr_len (m := 32) (by have := n_in hl; omega) (by omega)
theorem k35 : (wtF35.val (wtEnv xs) != 0) = false := by unfold wtF35; exact gtr_len (m := 16) (by have := wt_L6 hl; omega) (by omega)
theorem k39 : (wtF39.val (wtEnv xs) != 0) = true := by unfold wtF39; exact leq_len (by have := n_in hl; rw [n8 hl]; omega)
theorem k40 : (wtF40.val (wtEnv xs) != 0) = false := by unfold wtF40; exact gtr_len (m := 32) (by have := (wt_L9 hl).1; omega) (by omega)
theorem k45 : (wtF45.val (wtEnv xs) != 0) = false := by unfold wtF45; exact neq_len (n4 hl)
theorem k46 : (wtF46.val (wtEnv xs) != 0) = false := by unfold wtF46; exact neq_len (n8 hl)
theorem k47 : (wtF47.val (wtEnv xs) != 0) = true := by unfold wtF47; exact leq_len (by have := wt_L6 hl; omega)
theorem k8 : (wtF8.val (wtEnv xs) != 0) = false := by
 obtain ⟨w, h⟩ := eb2_self (FT Lm6_Tib2) (wtL0.val (wtEnv xs)) (wtL5.val (wtEnv xs)) (by have := n_in hl; omega)
 unfold wtF8
 exact eql_one (e := wtEnv xs) (i := 0) (w := w) (by rw [ft62]; simp only [vals_c, vals_n]; exact h)
theorem k17 : (wtF17.val (wtEnv xs) != 0) = false := by
 obtain ⟨w, h⟩ := eb2_self (FT Lm6_Tib2) (wtL0.val (wtEnv xs)) (wtL10.val (wtEnv xs)) (by have := n_in hl; omega)
 unfold wtF17
 exact eql_one (e := wtEnv xs) (i := 0) (w := w) (by rw [ft62]; simp only [vals_c, vals_n]; exact h)
theorem k10 : (wtF10.val (wtEnv xs) != 0) = false := by
 obtain ⟨w, h⟩ := er_self (FT Lm2_Tet) (wtL6.val (wtEnv xs)) (by have := wt_L6 hl; omega)
 unfold wtF10
 exact eql_one (e := wtEnv xs) (i := 0) (w := w) (by rw [ft43]; simp only [vals_c, vals_n]; exact h)
theorem k12 : (wtF12.val (wtEnv xs) != 0) = false := by
 obtain ⟨w, h⟩ := ei_self (FT Lm2_Ter) (wtL4.val (wtEnv xs)) (by have := n_in hl; rw [n4 hl]; omega)
 unfold wtF12
 exact eql_one (e := wtEnv xs) (i := 0) (w := w) (by rw [ft44]; simp only [vals_c, vals_n]; exact h)
theorem k21 : (wtF21.val (wtEnv xs) != 0) = false := by
 obtain ⟨w, h⟩ := ei_self (FT Lm2_Ter) (wtL8.val (wtEnv xs)) (by have := n_in hl; rw [n8 hl]; omega)
 unfold wtF21
 exact eql_one (e := wtEnv xs) (i := 0) (w := w) (by rw [ft44]; simp only [vals_c, vals_n]; exact h)
theorem k19 : (wtF19.val (wtEnv xs) != 0) = false := by
 obtain ⟨w, h⟩ := et_self (FT Lm2_Teb) (wtL9.val (wtEnv xs)) (by have := (wt_L9 hl).1; omega)
 unfold wtF19
 exact eql_one (e := wtEnv xs) (i := 0) (w := w) (by rw [ft42]; simp only [vals_c, vals_n]; exact h)
end
end Go.Proofs.Ytedfbamihjnhhaa.Own
end
